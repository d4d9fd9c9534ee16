-- Written by a program of this seat's session (mkprint), out of the translation.
import Derived.Test.YtcappkphcjgeoaaShort
import Derived.Test.YtcappkphcjgeoaaFx0
import Derived.Test.YtcappkphcjgeoaaFx2
import Derived.Test.YtcappkphcjgeoaaFx3
import Derived.Test.YtcappkphcjgeoaaFx4
import Derived.Test.YtcappkphcjgeoaaFx5
import Derived.Test.YtcappkphcjgeoaaFx12
import Derived.Test.YtcappkphcjgeoaaFx15
namespace Go.Proofs.Ytcappkphcjgeoaa.F
open Go.RowKit Go.Proofs.YtcappkphcjgeoaaW.PrintWords Go.Proofs.YtcappkphcjgeoaaW.PrintLast Go.Proofs.YtcappkphcjgeoaaW.PrintMore
attribute [local go_sem] max2_int min2_int max_two min_two max_three min_three max_four min_four   -- for this text's walks alone
set_option linter.unusedVariables false
set_option linter.unusedSimpArgs false

/-! ### more_Fma: function 28 -/
mutual
def more_Fma.j0 : Nat → Int → Int → Int → Int → Int → Bool → Option (Int × Int)
 | 0, _, _, _, _, _, _ => none
 | k + 1, x0, x1, x2, x8, x9, x45 => if x45 = true then ((word_Finite.f x0).bind fun t609 => (if t609 = true then ((word_Finite.f x1).bind fun t610 => (more_Fma.j1 k x2 x8 x9 t610)) else (more_Fma.j1 k x2 x8 x9 false))) else ((word_Parts.f k x0).bind fun bt615 => ((word_Parts.f k x1).bind fun bt617 => ((word_Neg.f x0).bind fun t619 => ((word_Neg.f x1).bind fun t620 => (if bt615.1 = 0 then (more_Fma.j3 k x2 bt615.1 bt615.2 bt617.1 bt617.2 (t619 != t620) true) else (more_Fma.j3 k x2 bt615.1 bt615.2 bt617.1 bt617.2 (t619 != t620) (bt617.1 == 0)))))))
def more_Fma.j1 : Nat → Int → Int → Int → Bool → Option (Int × Int)
 | 0, _, _, _, _ => none
 | k + 1, x2, x8, x9, x51 => if x51 = true then ((word_Neg.f x8).bind fun t611 => ((word_Make.f t611 0 0).bind fun t612 => (more_Fma.j2 k x2 t612 0))) else (more_Fma.j2 k x2 x8 x9)
def more_Fma.j2 : Nat → Int → Int → Int → Option (Int × Int)
 | 0, _, _, _ => none
 | k + 1, x2, x8, x9 => (soft_Add.f k x8 x2).bind fun bt613 => (some (bt613.1, Go.bits .or .u8 (Go.bits .and .u8 x9 16) bt613.2))
def more_Fma.j3 : Nat → Int → Int → Int → Int → Int → Bool → Bool → Option (Int × Int)
 | 0, _, _, _, _, _, _, _ => none
 | k + 1, x2, x12, x13, x14, x15, x16, x86 => if x86 = true then ((word_Make.f x16 0 0).bind fun t621 => ((soft_Add.f k t621 x2).bind fun bt622 => (some (bt622.1, bt622.2)))) else ((wide_Mul.f x12 x14).bind fun bt624 => ((word_Parts.f k x2).bind fun bt628 => (if bt628.1 = 0 then ((round_Round.f k x16 bt624.1 bt624.2 (wrap64 (x13 + x15)) false).bind fun bt630 => (some (bt630.1, bt630.2))) else ((wide_Wide_Len.f k bt624.1 bt624.2).bind fun t632 => ((wide_Wide_Left.f bt624.1 bt624.2 (wrap64 (126 - t632))).bind fun bt633 => ((wide_Wide_Len.f k bt624.1 bt624.2).bind fun t635 => ((bits_Len64.f k bt628.1).bind fun t636 => ((wide_Wide_Left.f 0 bt628.1 (wrap64 (126 - t636))).bind fun bt637 => ((bits_Len64.f k bt628.1).bind fun t639 => ((word_Neg.f x2).bind fun t640 => (if (wrap64 ((wrap64 ((wrap64 (x13 + x15)) - 126)) + t635)) < (wrap64 ((wrap64 (bt628.2 - 126)) + t639)) then (more_Fma.j4 k (wrap64 ((wrap64 ((wrap64 (x13 + x15)) - 126)) + t635)) x16 (wrap64 ((wrap64 (bt628.2 - 126)) + t639)) t640 true bt633.1 bt633.2 bt637.1 bt637.2) else (if (wrap64 ((wrap64 ((wrap64 (x13 + x15)) - 126)) + t635)) = (wrap64 ((wrap64 (bt628.2 - 126)) + t639)) then ((wide_Wide_Cmp.f k bt633.1 bt633.2 bt637.1 bt637.2).bind fun t641 => (more_Fma.j4 k (wrap64 ((wrap64 ((wrap64 (x13 + x15)) - 126)) + t635)) x16 (wrap64 ((wrap64 (bt628.2 - 126)) + t639)) t640 (decide (t641 < 0)) bt633.1 bt633.2 bt637.1 bt637.2)) else (more_Fma.j4 k (wrap64 ((wrap64 ((wrap64 (x13 + x15)) - 126)) + t635)) x16 (wrap64 ((wrap64 (bt628.2 - 126)) + t639)) t640 false bt633.1 bt633.2 bt637.1 bt637.2)))))))))))))
def more_Fma.j4 : Nat → Int → Bool → Int → Bool → Bool → Int → Int → Int → Int → Option (Int × Int)
 | 0, _, _, _, _, _, _, _, _, _ => none
 | k + 1, x13, x16, x20, x21, x149, x627000, x627001, x628000, x628001 => if x149 = true then (more_Fma.j5 k x20 x21 x13 x16 x628000 x628001 x627000 x627001) else (more_Fma.j5 k x13 x16 x20 x21 x627000 x627001 x628000 x628001)
def more_Fma.j5 : Nat → Int → Bool → Int → Bool → Int → Int → Int → Int → Option (Int × Int)
 | 0, _, _, _, _, _, _, _, _ => none
 | k + 1, x13, x16, x20, x21, x627000, x627001, x628000, x628001 => (wide_Wide_Right.f k x628000 x628001 (wrap64 (x13 - x20))).bind fun bt642 => (if (x16 == x21) = true then ((wide_Wide_Add.f x627000 x627001 bt642.1 bt642.2.1).bind fun bt645 => ((round_Round.f k x16 bt645.1 bt645.2.1 x13 bt642.2.2).bind fun bt649 => (some (bt649.1, bt649.2)))) else (if bt642.2.2 = true then ((wide_Wide_Add.f bt642.1 bt642.2.1 0 1).bind fun bt651 => (more_Fma.j6 k x13 x16 bt642.2.2 x627000 x627001 bt651.1 bt651.2.1)) else (more_Fma.j6 k x13 x16 bt642.2.2 x627000 x627001 bt642.1 bt642.2.1)))
def more_Fma.j6 : Nat → Int → Bool → Bool → Int → Int → Int → Int → Option (Int × Int)
 | 0, _, _, _, _, _, _, _ => none
 | k + 1, x13, x16, x22, x627000, x627001, x628000, x628001 => (wide_Wide_Sub.f x627000 x627001 x628000 x628001).bind fun bt654 => ((wide_Wide_Zero.f bt654.1 bt654.2.1).bind fun t658 => (if t658 = true then (more_Fma.j7 k x13 x16 x22 (!x22) bt654.1 bt654.2.1) else (more_Fma.j7 k x13 x16 x22 false bt654.1 bt654.2.1)))
def more_Fma.j7 : Nat → Int → Bool → Bool → Bool → Int → Int → Option (Int × Int)
 | 0, _, _, _, _, _, _ => none
 | k + 1, x13, x16, x22, x198, x658000, x658001 => if x198 = true then (some (0, 0)) else ((round_Round.f k x16 x658000 x658001 x13 x22).bind fun bt659 => (some (bt659.1, bt659.2)))
end
def more_Fma.f (k : Nat) (a0 : Int) (a1 : Int) (a2 : Int) : Option (Int × Int) := (soft_Mul.f k a0 a1).bind fun bt604 => ((word_Finite.f a0).bind fun t606 => (if t606 = true then ((word_Finite.f a1).bind fun t607 => (if t607 = true then ((word_Finite.f a2).bind fun t608 => (more_Fma.j0 k a0 a1 a2 bt604.1 bt604.2 (!t608))) else (more_Fma.j0 k a0 a1 a2 bt604.1 bt604.2 true))) else (more_Fma.j0 k a0 a1 a2 bt604.1 bt604.2 true)))
theorem more_Fma.mono_l : ∀ k, (∀ y0 y1 y2 y3 y4 y5, LeO (more_Fma.j0 k y0 y1 y2 y3 y4 y5) (more_Fma.j0 (k + 1) y0 y1 y2 y3 y4 y5)) ∧ (∀ y0 y1 y2 y3, LeO (more_Fma.j1 k y0 y1 y2 y3) (more_Fma.j1 (k + 1) y0 y1 y2 y3)) ∧ (∀ y0 y1 y2, LeO (more_Fma.j2 k y0 y1 y2) (more_Fma.j2 (k + 1) y0 y1 y2)) ∧ (∀ y0 y1 y2 y3 y4 y5 y6, LeO (more_Fma.j3 k y0 y1 y2 y3 y4 y5 y6) (more_Fma.j3 (k + 1) y0 y1 y2 y3 y4 y5 y6)) ∧ (∀ y0 y1 y2 y3 y4 y5 y6 y7 y8, LeO (more_Fma.j4 k y0 y1 y2 y3 y4 y5 y6 y7 y8) (more_Fma.j4 (k + 1) y0 y1 y2 y3 y4 y5 y6 y7 y8)) ∧ (∀ y0 y1 y2 y3 y4 y5 y6 y7, LeO (more_Fma.j5 k y0 y1 y2 y3 y4 y5 y6 y7) (more_Fma.j5 (k + 1) y0 y1 y2 y3 y4 y5 y6 y7)) ∧ (∀ y0 y1 y2 y3 y4 y5 y6, LeO (more_Fma.j6 k y0 y1 y2 y3 y4 y5 y6) (more_Fma.j6 (k + 1) y0 y1 y2 y3 y4 y5 y6)) ∧ (∀ y0 y1 y2 y3 y4 y5, LeO (more_Fma.j7 k y0 y1 y2 y3 y4 y5) (more_Fma.j7 (k + 1) y0 y1 y2 y3 y4 y5))
 | 0 => ⟨fun _ _ _ _ _ _ r h => by simp [more_Fma.j0] at h, fun _ _ _ _ r h => by simp [more_Fma.j1] at h, fun _ _ _ r h => by simp [more_Fma.j2] at h, fun _ _ _ _ _ _ _ r h => by simp [more_Fma.j3] at h, fun _ _ _ _ _ _ _ _ _ r h => by simp [more_Fma.j4] at h, fun _ _ _ _ _ _ _ _ r h => by simp [more_Fma.j5] at h, fun _ _ _ _ _ _ _ r h => by simp [more_Fma.j6] at h, fun _ _ _ _ _ _ r h => by simp [more_Fma.j7] at h⟩
 | k + 1 => by
  obtain ⟨ih0, ih1, ih2, ih3, ih4, ih5, ih6, ih7⟩ := more_Fma.mono_l k
  refine ⟨?_, ?_, ?_, ?_, ?_, ?_, ?_, ?_⟩
  ·
   intro y0 y1 y2 y3 y4 y5
   unfold more_Fma.j0
   repeat' first
   | (with_reducible exact ih0 _ _ _ _ _ _)
   | (with_reducible exact ih1 _ _ _ _)
   | (with_reducible exact ih2 _ _ _)
   | (with_reducible exact ih3 _ _ _ _ _ _ _)
   | (with_reducible exact ih4 _ _ _ _ _ _ _ _ _)
   | (with_reducible exact ih5 _ _ _ _ _ _ _ _)
   | (with_reducible exact ih6 _ _ _ _ _ _ _)
   | (with_reducible exact ih7 _ _ _ _ _ _)
   | (with_reducible exact bits_Len64.mono _ _)
   | (with_reducible exact round_Round.mono _ _ _ _ _ _)
   | (with_reducible exact soft_Add.mono _ _ _)
   | (with_reducible exact soft_Mul.mono _ _ _)
   | (with_reducible exact wide_Wide_Cmp.mono _ _ _ _ _)
   | (with_reducible exact wide_Wide_Len.mono _ _ _)
   | (with_reducible exact wide_Wide_Right.mono _ _ _ _)
   | (with_reducible exact word_Parts.mono _ _)
   | (with_reducible exact LeO.refl _)
   | (with_reducible exact LeO.none _)
   | (with_reducible refine LeO.ite ?_ ?_)
   | (with_reducible refine LeO.bind ?_ (fun _ => ?_))
   | exact ih0 _ _ _ _ _ _
   | exact ih1 _ _ _ _
   | exact ih2 _ _ _
   | exact ih3 _ _ _ _ _ _ _
   | exact ih4 _ _ _ _ _ _ _ _ _
   | exact ih5 _ _ _ _ _ _ _ _
   | exact ih6 _ _ _ _ _ _ _
   | exact ih7 _ _ _ _ _ _
   | exact bits_Len64.mono _ _
   | exact round_Round.mono _ _ _ _ _ _
   | exact soft_Add.mono _ _ _
   | exact soft_Mul.mono _ _ _
   | exact wide_Wide_Cmp.mono _ _ _ _ _
   | exact wide_Wide_Len.mono _ _ _
   | exact wide_Wide_Right.mono _ _ _ _
   | exact word_Parts.mono _ _
   | exact LeO.none _
   | refine LeO.ite ?_ ?_
   | refine LeO.bind ?_ (fun _ => ?_)
  ·
   intro y0 y1 y2 y3
   unfold more_Fma.j1
   repeat' first
   | (with_reducible exact ih0 _ _ _ _ _ _)
   | (with_reducible exact ih1 _ _ _ _)
   | (with_reducible exact ih2 _ _ _)
   | (with_reducible exact ih3 _ _ _ _ _ _ _)
   | (with_reducible exact ih4 _ _ _ _ _ _ _ _ _)
   | (with_reducible exact ih5 _ _ _ _ _ _ _ _)
   | (with_reducible exact ih6 _ _ _ _ _ _ _)
   | (with_reducible exact ih7 _ _ _ _ _ _)
   | (with_reducible exact bits_Len64.mono _ _)
   | (with_reducible exact round_Round.mono _ _ _ _ _ _)
   | (with_reducible exact soft_Add.mono _ _ _)
   | (with_reducible exact soft_Mul.mono _ _ _)
   | (with_reducible exact wide_Wide_Cmp.mono _ _ _ _ _)
   | (with_reducible exact wide_Wide_Len.mono _ _ _)
   | (with_reducible exact wide_Wide_Right.mono _ _ _ _)
   | (with_reducible exact word_Parts.mono _ _)
   | (with_reducible exact LeO.refl _)
   | (with_reducible exact LeO.none _)
   | (with_reducible refine LeO.ite ?_ ?_)
   | (with_reducible refine LeO.bind ?_ (fun _ => ?_))
   | exact ih0 _ _ _ _ _ _
   | exact ih1 _ _ _ _
   | exact ih2 _ _ _
   | exact ih3 _ _ _ _ _ _ _
   | exact ih4 _ _ _ _ _ _ _ _ _
   | exact ih5 _ _ _ _ _ _ _ _
   | exact ih6 _ _ _ _ _ _ _
   | exact ih7 _ _ _ _ _ _
   | exact bits_Len64.mono _ _
   | exact round_Round.mono _ _ _ _ _ _
   | exact soft_Add.mono _ _ _
   | exact soft_Mul.mono _ _ _
   | exact wide_Wide_Cmp.mono _ _ _ _ _
   | exact wide_Wide_Len.mono _ _ _
   | exact wide_Wide_Right.mono _ _ _ _
   | exact word_Parts.mono _ _
   | exact LeO.none _
   | refine LeO.ite ?_ ?_
   | refine LeO.bind ?_ (fun _ => ?_)
  ·
   intro y0 y1 y2
   unfold more_Fma.j2
   repeat' first
   | (with_reducible exact ih0 _ _ _ _ _ _)
   | (with_reducible exact ih1 _ _ _ _)
   | (with_reducible exact ih2 _ _ _)
   | (with_reducible exact ih3 _ _ _ _ _ _ _)
   | (with_reducible exact ih4 _ _ _ _ _ _ _ _ _)
   | (with_reducible exact ih5 _ _ _ _ _ _ _ _)
   | (with_reducible exact ih6 _ _ _ _ _ _ _)
   | (with_reducible exact ih7 _ _ _ _ _ _)
   | (with_reducible exact bits_Len64.mono _ _)
   | (with_reducible exact round_Round.mono _ _ _ _ _ _)
   | (with_reducible exact soft_Add.mono _ _ _)
   | (with_reducible exact soft_Mul.mono _ _ _)
   | (with_reducible exact wide_Wide_Cmp.mono _ _ _ _ _)
   | (with_reducible exact wide_Wide_Len.mono _ _ _)
   | (with_reducible exact wide_Wide_Right.mono _ _ _ _)
   | (with_reducible exact word_Parts.mono _ _)
   | (with_reducible exact LeO.refl _)
   | (with_reducible exact LeO.none _)
   | (with_reducible refine LeO.ite ?_ ?_)
   | (with_reducible refine LeO.bind ?_ (fun _ => ?_))
   | exact ih0 _ _ _ _ _ _
   | exact ih1 _ _ _ _
   | exact ih2 _ _ _
   | exact ih3 _ _ _ _ _ _ _
   | exact ih4 _ _ _ _ _ _ _ _ _
   | exact ih5 _ _ _ _ _ _ _ _
   | exact ih6 _ _ _ _ _ _ _
   | exact ih7 _ _ _ _ _ _
   | exact bits_Len64.mono _ _
   | exact round_Round.mono _ _ _ _ _ _
   | exact soft_Add.mono _ _ _
   | exact soft_Mul.mono _ _ _
   | exact wide_Wide_Cmp.mono _ _ _ _ _
   | exact wide_Wide_Len.mono _ _ _
   | exact wide_Wide_Right.mono _ _ _ _
   | exact word_Parts.mono _ _
   | exact LeO.none _
   | refine LeO.ite ?_ ?_
   | refine LeO.bind ?_ (fun _ => ?_)
  ·
   intro y0 y1 y2 y3 y4 y5 y6
   unfold more_Fma.j3
   repeat' first
   | (with_reducible exact ih0 _ _ _ _ _ _)
   | (with_reducible exact ih1 _ _ _ _)
   | (with_reducible exact ih2 _ _ _)
   | (with_reducible exact ih3 _ _ _ _ _ _ _)
   | (with_reducible exact ih4 _ _ _ _ _ _ _ _ _)
   | (with_reducible exact ih5 _ _ _ _ _ _ _ _)
   | (with_reducible exact ih6 _ _ _ _ _ _ _)
   | (with_reducible exact ih7 _ _ _ _ _ _)
   | (with_reducible exact bits_Len64.mono _ _)
   | (with_reducible exact round_Round.mono _ _ _ _ _ _)
   | (with_reducible exact soft_Add.mono _ _ _)
   | (with_reducible exact soft_Mul.mono _ _ _)
   | (with_reducible exact wide_Wide_Cmp.mono _ _ _ _ _)
   | (with_reducible exact wide_Wide_Len.mono _ _ _)
   | (with_reducible exact wide_Wide_Right.mono _ _ _ _)
   | (with_reducible exact word_Parts.mono _ _)
   | (with_reducible exact LeO.refl _)
   | (with_reducible exact LeO.none _)
   | (with_reducible refine LeO.ite ?_ ?_)
   | (with_reducible refine LeO.bind ?_ (fun _ => ?_))
   | exact ih0 _ _ _ _ _ _
   | exact ih1 _ _ _ _
   | exact ih2 _ _ _
   | exact ih3 _ _ _ _ _ _ _
   | exact ih4 _ _ _ _ _ _ _ _ _
   | exact ih5 _ _ _ _ _ _ _ _
   | exact ih6 _ _ _ _ _ _ _
   | exact ih7 _ _ _ _ _ _
   | exact bits_Len64.mono _ _
   | exact round_Round.mono _ _ _ _ _ _
   | exact soft_Add.mono _ _ _
   | exact soft_Mul.mono _ _ _
   | exact wide_Wide_Cmp.mono _ _ _ _ _
   | exact wide_Wide_Len.mono _ _ _
   | exact wide_Wide_Right.mono _ _ _ _
   | exact word_Parts.mono _ _
   | exact LeO.none _
   | refine LeO.ite ?_ ?_
   | refine LeO.bind ?_ (fun _ => ?_)
  ·
   intro y0 y1 y2 y3 y4 y5 y6 y7 y8
   unfold more_Fma.j4
   repeat' first
   | (with_reducible exact ih0 _ _ _ _ _ _)
   | (with_reducible exact ih1 _ _ _ _)
   | (with_reducible exact ih2 _ _ _)
   | (with_reducible exact ih3 _ _ _ _ _ _ _)
   | (with_reducible exact ih4 _ _ _ _ _ _ _ _ _)
   | (with_reducible exact ih5 _ _ _ _ _ _ _ _)
   | (with_reducible exact ih6 _ _ _ _ _ _ _)
   | (with_reducible exact ih7 _ _ _ _ _ _)
   | (with_reducible exact bits_Len64.mono _ _)
   | (with_reducible exact round_Round.mono _ _ _ _ _ _)
   | (with_reducible exact soft_Add.mono _ _ _)
   | (with_reducible exact soft_Mul.mono _ _ _)
   | (with_reducible exact wide_Wide_Cmp.mono _ _ _ _ _)
   | (with_reducible exact wide_Wide_Len.mono _ _ _)
   | (with_reducible exact wide_Wide_Right.mono _ _ _ _)
   | (with_reducible exact word_Parts.mono _ _)
   | (with_reducible exact LeO.refl _)
   | (with_reducible exact LeO.none _)
   | (with_reducible refine LeO.ite ?_ ?_)
   | (with_reducible refine LeO.bind ?_ (fun _ => ?_))
   | exact ih0 _ _ _ _ _ _
   | exact ih1 _ _ _ _
   | exact ih2 _ _ _
   | exact ih3 _ _ _ _ _ _ _
   | exact ih4 _ _ _ _ _ _ _ _ _
   | exact ih5 _ _ _ _ _ _ _ _
   | exact ih6 _ _ _ _ _ _ _
   | exact ih7 _ _ _ _ _ _
   | exact bits_Len64.mono _ _
   | exact round_Round.mono _ _ _ _ _ _
   | exact soft_Add.mono _ _ _
   | exact soft_Mul.mono _ _ _
   | exact wide_Wide_Cmp.mono _ _ _ _ _
   | exact wide_Wide_Len.mono _ _ _
   | exact wide_Wide_Right.mono _ _ _ _
   | exact word_Parts.mono _ _
   | exact LeO.none _
   | refine LeO.ite ?_ ?_
   | refine LeO.bind ?_ (fun _ => ?_)
  ·
   intro y0 y1 y2 y3 y4 y5 y6 y7
   unfold more_Fma.j5
   repeat' first
   | (with_reducible exact ih0 _ _ _ _ _ _)
   | (with_reducible exact ih1 _ _ _ _)
   | (with_reducible exact ih2 _ _ _)
   | (with_reducible exact ih3 _ _ _ _ _ _ _)
   | (with_reducible exact ih4 _ _ _ _ _ _ _ _ _)
   | (with_reducible exact ih5 _ _ _ _ _ _ _ _)
   | (with_reducible exact ih6 _ _ _ _ _ _ _)
   | (with_reducible exact ih7 _ _ _ _ _ _)
   | (with_reducible exact bits_Len64.mono _ _)
   | (with_reducible exact round_Round.mono _ _ _ _ _ _)
   | (with_reducible exact soft_Add.mono _ _ _)
   | (with_reducible exact soft_Mul.mono _ _ _)
   | (with_reducible exact wide_Wide_Cmp.mono _ _ _ _ _)
   | (with_reducible exact wide_Wide_Len.mono _ _ _)
   | (with_reducible exact wide_Wide_Right.mono _ _ _ _)
   | (with_reducible exact word_Parts.mono _ _)
   | (with_reducible exact LeO.refl _)
   | (with_reducible exact LeO.none _)
   | (with_reducible refine LeO.ite ?_ ?_)
   | (with_reducible refine LeO.bind ?_ (fun _ => ?_))
   | exact ih0 _ _ _ _ _ _
   | exact ih1 _ _ _ _
   | exact ih2 _ _ _
   | exact ih3 _ _ _ _ _ _ _
   | exact ih4 _ _ _ _ _ _ _ _ _
   | exact ih5 _ _ _ _ _ _ _ _
   | exact ih6 _ _ _ _ _ _ _
   | exact ih7 _ _ _ _ _ _
   | exact bits_Len64.mono _ _
   | exact round_Round.mono _ _ _ _ _ _
   | exact soft_Add.mono _ _ _
   | exact soft_Mul.mono _ _ _
   | exact wide_Wide_Cmp.mono _ _ _ _ _
   | exact wide_Wide_Len.mono _ _ _
   | exact wide_Wide_Right.mono _ _ _ _
   | exact word_Parts.mono _ _
   | exact LeO.none _
   | refine LeO.ite ?_ ?_
   | refine LeO.bind ?_ (fun _ => ?_)
  ·
   intro y0 y1 y2 y3 y4 y5 y6
   unfold more_Fma.j6
   repeat' first
   | (with_reducible exact ih0 _ _ _ _ _ _)
   | (with_reducible exact ih1 _ _ _ _)
   | (with_reducible exact ih2 _ _ _)
   | (with_reducible exact ih3 _ _ _ _ _ _ _)
   | (with_reducible exact ih4 _ _ _ _ _ _ _ _ _)
   | (with_reducible exact ih5 _ _ _ _ _ _ _ _)
   | (with_reducible exact ih6 _ _ _ _ _ _ _)
   | (with_reducible exact ih7 _ _ _ _ _ _)
   | (with_reducible exact bits_Len64.mono _ _)
   | (with_reducible exact round_Round.mono _ _ _ _ _ _)
   | (with_reducible exact soft_Add.mono _ _ _)
   | (with_reducible exact soft_Mul.mono _ _ _)
   | (with_reducible exact wide_Wide_Cmp.mono _ _ _ _ _)
   | (with_reducible exact wide_Wide_Len.mono _ _ _)
   | (with_reducible exact wide_Wide_Right.mono _ _ _ _)
   | (with_reducible exact word_Parts.mono _ _)
   | (with_reducible exact LeO.refl _)
   | (with_reducible exact LeO.none _)
   | (with_reducible refine LeO.ite ?_ ?_)
   | (with_reducible refine LeO.bind ?_ (fun _ => ?_))
   | exact ih0 _ _ _ _ _ _
   | exact ih1 _ _ _ _
   | exact ih2 _ _ _
   | exact ih3 _ _ _ _ _ _ _
   | exact ih4 _ _ _ _ _ _ _ _ _
   | exact ih5 _ _ _ _ _ _ _ _
   | exact ih6 _ _ _ _ _ _ _
   | exact ih7 _ _ _ _ _ _
   | exact bits_Len64.mono _ _
   | exact round_Round.mono _ _ _ _ _ _
   | exact soft_Add.mono _ _ _
   | exact soft_Mul.mono _ _ _
   | exact wide_Wide_Cmp.mono _ _ _ _ _
   | exact wide_Wide_Len.mono _ _ _
   | exact wide_Wide_Right.mono _ _ _ _
   | exact word_Parts.mono _ _
   | exact LeO.none _
   | refine LeO.ite ?_ ?_
   | refine LeO.bind ?_ (fun _ => ?_)
  ·
   intro y0 y1 y2 y3 y4 y5
   unfold more_Fma.j7
   repeat' first
   | (with_reducible exact ih0 _ _ _ _ _ _)
   | (with_reducible exact ih1 _ _ _ _)
   | (with_reducible exact ih2 _ _ _)
   | (with_reducible exact ih3 _ _ _ _ _ _ _)
   | (with_reducible exact ih4 _ _ _ _ _ _ _ _ _)
   | (with_reducible exact ih5 _ _ _ _ _ _ _ _)
   | (with_reducible exact ih6 _ _ _ _ _ _ _)
   | (with_reducible exact ih7 _ _ _ _ _ _)
   | (with_reducible exact bits_Len64.mono _ _)
   | (with_reducible exact round_Round.mono _ _ _ _ _ _)
   | (with_reducible exact soft_Add.mono _ _ _)
   | (with_reducible exact soft_Mul.mono _ _ _)
   | (with_reducible exact wide_Wide_Cmp.mono _ _ _ _ _)
   | (with_reducible exact wide_Wide_Len.mono _ _ _)
   | (with_reducible exact wide_Wide_Right.mono _ _ _ _)
   | (with_reducible exact word_Parts.mono _ _)
   | (with_reducible exact LeO.refl _)
   | (with_reducible exact LeO.none _)
   | (with_reducible refine LeO.ite ?_ ?_)
   | (with_reducible refine LeO.bind ?_ (fun _ => ?_))
   | exact ih0 _ _ _ _ _ _
   | exact ih1 _ _ _ _
   | exact ih2 _ _ _
   | exact ih3 _ _ _ _ _ _ _
   | exact ih4 _ _ _ _ _ _ _ _ _
   | exact ih5 _ _ _ _ _ _ _ _
   | exact ih6 _ _ _ _ _ _ _
   | exact ih7 _ _ _ _ _ _
   | exact bits_Len64.mono _ _
   | exact round_Round.mono _ _ _ _ _ _
   | exact soft_Add.mono _ _ _
   | exact soft_Mul.mono _ _ _
   | exact wide_Wide_Cmp.mono _ _ _ _ _
   | exact wide_Wide_Len.mono _ _ _
   | exact wide_Wide_Right.mono _ _ _ _
   | exact word_Parts.mono _ _
   | exact LeO.none _
   | refine LeO.ite ?_ ?_
   | refine LeO.bind ?_ (fun _ => ?_)
theorem more_Fma.mono : ∀ a0 a1 a2 k, LeO (more_Fma.f k a0 a1 a2) (more_Fma.f (k + 1) a0 a1 a2) := by
 intro a0 a1 a2 k
 obtain ⟨ih0, ih1, ih2, ih3, ih4, ih5, ih6, ih7⟩ := more_Fma.mono_l k
 unfold more_Fma.f
 repeat' first
   | (with_reducible exact ih0 _ _ _ _ _ _)
   | (with_reducible exact ih1 _ _ _ _)
   | (with_reducible exact ih2 _ _ _)
   | (with_reducible exact ih3 _ _ _ _ _ _ _)
   | (with_reducible exact ih4 _ _ _ _ _ _ _ _ _)
   | (with_reducible exact ih5 _ _ _ _ _ _ _ _)
   | (with_reducible exact ih6 _ _ _ _ _ _ _)
   | (with_reducible exact ih7 _ _ _ _ _ _)
   | (with_reducible exact bits_Len64.mono _ _)
   | (with_reducible exact round_Round.mono _ _ _ _ _ _)
   | (with_reducible exact soft_Add.mono _ _ _)
   | (with_reducible exact soft_Mul.mono _ _ _)
   | (with_reducible exact wide_Wide_Cmp.mono _ _ _ _ _)
   | (with_reducible exact wide_Wide_Len.mono _ _ _)
   | (with_reducible exact wide_Wide_Right.mono _ _ _ _)
   | (with_reducible exact word_Parts.mono _ _)
   | (with_reducible exact LeO.refl _)
   | (with_reducible exact LeO.none _)
   | (with_reducible refine LeO.ite ?_ ?_)
   | (with_reducible refine LeO.bind ?_ (fun _ => ?_))
   | exact ih0 _ _ _ _ _ _
   | exact ih1 _ _ _ _
   | exact ih2 _ _ _
   | exact ih3 _ _ _ _ _ _ _
   | exact ih4 _ _ _ _ _ _ _ _ _
   | exact ih5 _ _ _ _ _ _ _ _
   | exact ih6 _ _ _ _ _ _ _
   | exact ih7 _ _ _ _ _ _
   | exact bits_Len64.mono _ _
   | exact round_Round.mono _ _ _ _ _ _
   | exact soft_Add.mono _ _ _
   | exact soft_Mul.mono _ _ _
   | exact wide_Wide_Cmp.mono _ _ _ _ _
   | exact wide_Wide_Len.mono _ _ _
   | exact wide_Wide_Right.mono _ _ _ _
   | exact word_Parts.mono _ _
   | exact LeO.none _
   | refine LeO.ite ?_ ?_
   | refine LeO.bind ?_ (fun _ => ?_)
def more_Fma.T17 : Bool × List (List Nat × List Nat) := (true, [([], []), ([], []), ([1], [1]), ([2], [2]), ([0, 3, 2], [0, 3]), ([], []), ([5], [5]), ([], []), ([7, 4], [7]), ([6, 8], [6, 8]), ([4, 8, 0, 1, 2, 3, 4, 7], [4]), ([9, 10, 0, 1, 2, 3, 4, 5, 6, 7, 8, 9, 10], [5, 9])])
def more_Fma.B17 : List Nat := [0, 0, 2, 6, 15, 0, 32, 0, 159, 511, 415, 2047]
theorem more_Fma.tab17 : rtab .any (opsOf Try.f28 17) = more_Fma.T17 := by kernel_rfl
theorem more_Fma.bits17 : waitsOk more_Fma.T17.2 more_Fma.B17 = true := by kernel_rfl
set_option maxHeartbeats 8000000 in
set_option maxRecDepth 100000 in
theorem more_Fma.calls (k : Nat) (a0 : Int) (a1 : Int) (a2 : Int) (r1 : Int) (r2 : Int) (w : World) (h : more_Fma.f k a0 a1 a2 = some (r1, r2)) :
  Calls Try.prog 28 #[.int .u64 a0, .int .u64 a1, .int .u64 a2] w fun e w' => e = .returned (.tuple #[.int .u64 r1, .int .u8 r2]) ∧ Below w.heap.size w w' := by
 have hu55 := Try.underlying55
 have HB := Aside0.mk (Below.refl w.heap.size w)
 have H : ((soft_Mul.f k a0 a1).bind fun bt604 => ((word_Finite.f a0).bind fun t606 => (if t606 = true then ((word_Finite.f a1).bind fun t607 => (if t607 = true then ((word_Finite.f a2).bind fun t608 => (more_Fma.j0 k a0 a1 a2 bt604.1 bt604.2 (!t608))) else (more_Fma.j0 k a0 a1 a2 bt604.1 bt604.2 true))) else (more_Fma.j0 k a0 a1 a2 bt604.1 bt604.2 true)))) = some (r1, r2) := h
 clear h
 obtain ⟨⟨t604, t605⟩, A40, H⟩ := Option.bind_eq_some_iff.mp H
 (try dsimp -simprocs only at H)
 have A4 := Aside0.mk A40
 clear A40
 have HC5 := Aside0.mk H
 clear H
 go_enter Try.func28, Try.ntmps28
 go_upto_region 2 with (first | ((with_reducible refine gate_callee (f := 27) rfl ?_); refine goesL_ (some 30) rfl rfl Try.func27 (by kernel_rfl) rfl #[.int .u64 a0, .int .u64 a1] rfl ga ?_; (with_reducible refine (soft_Mul.calls k a0 a1 t604 t605 _ A4.out).mono ?_); rintro e w6 ⟨rfl, hb⟩; refine ⟨_, rfl, ?_⟩; have n0_ := Aside0.mk (below_step bel hb); clear HB; have HB := n0_; clear n0_; (try clear hb)))
 (try simp only [Act.put, List.setIfInBounds_toArray, List.set_cons_zero, List.set_cons_succ])
 go_cut [45] (fun v45 wc => ∃ (kq : Nat) (x45_4 : Bool), v45 = .bool x45_4 ∧ Aside0 (more_Fma.j0 kq a0 a1 a2 t604 t605 x45_4 = some (r1, r2)) ∧ Aside0 (kq ≤ k) ∧ Aside0 (Below w.heap.size w wc))
 case first => as_aux_lemma =>
  have H := HC5.out
  clear HC5
  obtain ⟨t606, A70, H⟩ := Option.bind_eq_some_iff.mp H
  (try dsimp -simprocs only at H)
  have A7 := Aside0.mk A70
  clear A70
  by_cases c8 : t606 = true
  ·
   subst c8
   rw [if_pos rfl] at H
   obtain ⟨t607, A90, H⟩ := Option.bind_eq_some_iff.mp H
   (try dsimp -simprocs only at H)
   have A9 := Aside0.mk A90
   clear A90
   by_cases c10 : t607 = true
   ·
    subst c10
    rw [if_pos rfl] at H
    obtain ⟨t608, A110, H⟩ := Option.bind_eq_some_iff.mp H
    (try dsimp -simprocs only at H)
    have A11 := Aside0.mk A110
    clear A110
    have H' := Aside0.mk H
    clear H
    go_wp2_with (first | ((with_reducible refine gate_callee (f := 16) rfl ?_); refine goesL_ (some 34) rfl rfl Try.func16 (by kernel_rfl) rfl #[.int .u64 a0] rfl ga ?_; (with_reducible refine (word_Finite.calls a0 true _ A7.out).mono ?_); rintro e w' ⟨rfl, ⟨nd, rfl⟩⟩; refine ⟨_, rfl, ?_⟩) | (go_at_call 16; (with_reducible refine (word_Finite.calls a1 true _ A9.out).mono ?_); rintro e w' ⟨rfl, ⟨nd, rfl⟩⟩) | (go_at_call 16; (with_reducible refine (word_Finite.calls a2 t608 _ A11.out).mono ?_); rintro e w' ⟨rfl, ⟨nd, rfl⟩⟩))
    go_meet
    case rel => exact ⟨_, (!t608), (by first | rfl | (simp; done) | (simp [*]; done)), H', ⟨by first | omega | exact Nat.le_refl _⟩, ⟨bel⟩⟩
   ·
    replace c10 := Bool.eq_false_iff.mpr c10
    subst c10
    rw [if_neg (show ¬ (false = true) by decide)] at H
    have H' := Aside0.mk H
    clear H
    go_wp2_with (first | ((with_reducible refine gate_callee (f := 16) rfl ?_); refine goesL_ (some 34) rfl rfl Try.func16 (by kernel_rfl) rfl #[.int .u64 a0] rfl ga ?_; (with_reducible refine (word_Finite.calls a0 true _ A7.out).mono ?_); rintro e w' ⟨rfl, ⟨nd, rfl⟩⟩; refine ⟨_, rfl, ?_⟩) | (go_at_call 16; (with_reducible refine (word_Finite.calls a1 false _ A9.out).mono ?_); rintro e w' ⟨rfl, ⟨nd, rfl⟩⟩))
    go_meet
    case rel => exact ⟨_, (true), (by first | rfl | (simp; done) | (simp [*]; done)), H', ⟨by first | omega | exact Nat.le_refl _⟩, ⟨bel⟩⟩
  ·
   replace c8 := Bool.eq_false_iff.mpr c8
   subst c8
   rw [if_neg (show ¬ (false = true) by decide)] at H
   have H' := Aside0.mk H
   clear H
   go_wp2_with (first | ((with_reducible refine gate_callee (f := 16) rfl ?_); refine goesL_ (some 34) rfl rfl Try.func16 (by kernel_rfl) rfl #[.int .u64 a0] rfl ga ?_; (with_reducible refine (word_Finite.calls a0 false _ A7.out).mono ?_); rintro e w' ⟨rfl, ⟨nd, rfl⟩⟩; refine ⟨_, rfl, ?_⟩))
   go_meet
   case rel => exact ⟨_, (true), (by first | rfl | (simp; done) | (simp [*]; done)), H', ⟨by first | omega | exact Nat.le_refl _⟩, ⟨bel⟩⟩
 case rest => as_aux_lemma =>
  clear HC5
  try clear c1
  try clear c2
  try clear p2
  try clear c8
  try clear c10
  obtain ⟨kq, x45_4, rfl, HA, HJ4, HB⟩ := hcut
  cases kq with
  | zero => exact absurd HA.out (by simp [more_Fma.j0])
  | succ kj4 =>
   have H := HA.out
   clear HA
   simp only [more_Fma.j0] at H
   by_cases c12 : x45_4 = true
   ·
    subst c12
    rw [if_pos rfl] at H
    have HC13 := Aside0.mk H
    clear H
    go_upto_region 3 with (fail)
    go_cut [51] (fun v51 wc => ∃ (kq : Nat) (x51_12 : Bool), v51 = .bool x51_12 ∧ Aside0 (more_Fma.j1 kq a2 t604 t605 x51_12 = some (r1, r2)) ∧ Aside0 (kq ≤ kj4) ∧ Aside0 (Below w.heap.size w wc))
    case first => as_aux_lemma =>
     have H := HC13.out
     clear HC13
     obtain ⟨t609, A140, H⟩ := Option.bind_eq_some_iff.mp H
     (try dsimp -simprocs only at H)
     have A14 := Aside0.mk A140
     clear A140
     by_cases c15 : t609 = true
     ·
      subst c15
      rw [if_pos rfl] at H
      obtain ⟨t610, A160, H⟩ := Option.bind_eq_some_iff.mp H
      (try dsimp -simprocs only at H)
      have A16 := Aside0.mk A160
      clear A160
      have H' := Aside0.mk H
      clear H
      go_wp2_with (first | ((with_reducible refine gate_callee (f := 16) rfl ?_); refine goesL_ (some 47) rfl rfl Try.func16 (by kernel_rfl) rfl #[.int .u64 a0] rfl ga ?_; (with_reducible refine (word_Finite.calls a0 true _ A14.out).mono ?_); rintro e w' ⟨rfl, ⟨nd, rfl⟩⟩; refine ⟨_, rfl, ?_⟩) | (go_at_call 16; (with_reducible refine (word_Finite.calls a1 t610 _ A16.out).mono ?_); rintro e w' ⟨rfl, ⟨nd, rfl⟩⟩))
      go_meet
      case rel => exact ⟨_, (t610), (by first | rfl | (simp; done) | (simp [*]; done)), H', ⟨by have := HJ4.out; first | omega | exact Nat.le_refl _⟩, ⟨bel⟩⟩
     ·
      replace c15 := Bool.eq_false_iff.mpr c15
      subst c15
      rw [if_neg (show ¬ (false = true) by decide)] at H
      have H' := Aside0.mk H
      clear H
      go_wp2_with (first | ((with_reducible refine gate_callee (f := 16) rfl ?_); refine goesL_ (some 47) rfl rfl Try.func16 (by kernel_rfl) rfl #[.int .u64 a0] rfl ga ?_; (with_reducible refine (word_Finite.calls a0 false _ A14.out).mono ?_); rintro e w' ⟨rfl, ⟨nd, rfl⟩⟩; refine ⟨_, rfl, ?_⟩))
      go_meet
      case rel => exact ⟨_, (false), (by first | rfl | (simp; done) | (simp [*]; done)), H', ⟨by have := HJ4.out; first | omega | exact Nat.le_refl _⟩, ⟨bel⟩⟩
    case rest => as_aux_lemma =>
     clear HC13
     try clear c1
     try clear c2
     try clear p2
     try clear c8
     try clear c10
     try clear c12
     try clear c15
     try clear c16
     try clear p2
     obtain ⟨kq, x51_12, rfl, HA, HJ12, HB⟩ := hcut
     cases kq with
     | zero => exact absurd HA.out (by simp [more_Fma.j1])
     | succ kj12 =>
      have H := HA.out
      clear HA
      simp only [more_Fma.j1] at H
      have HC17 := Aside0.mk H
      clear H
      go_upto_if 51 with (fail)
      go_cut [8, 9] (fun v8 v9 wc => ∃ (kq : Nat) (x8_16 : Int) (x9_16 : Int), v8 = .int .u64 x8_16 ∧ v9 = .int .u8 x9_16 ∧ Aside0 (more_Fma.j2 kq a2 x8_16 x9_16 = some (r1, r2)) ∧ Aside0 (kq ≤ kj12) ∧ Aside0 (Below w.heap.size w wc))
      case first => as_aux_lemma =>
       have H := HC17.out
       clear HC17
       by_cases c18 : x51_12 = true
       ·
        subst c18
        rw [if_pos rfl] at H
        obtain ⟨t611, A190, H⟩ := Option.bind_eq_some_iff.mp H
        (try dsimp -simprocs only at H)
        have A19 := Aside0.mk A190
        clear A190
        obtain ⟨t612, A200, H⟩ := Option.bind_eq_some_iff.mp H
        (try dsimp -simprocs only at H)
        have A20 := Aside0.mk A200
        clear A200
        have H' := Aside0.mk H
        clear H
        go_wp2_with (first | ((with_reducible refine gate_callee (f := 21) rfl ?_); refine goesL_ (some 53) rfl rfl Try.func21 (by kernel_rfl) rfl #[.int .u64 t604] rfl ga ?_; (with_reducible refine (word_Neg.calls t604 t611 _ A19.out).mono ?_); rintro e w' ⟨rfl, ⟨nd, rfl⟩⟩; refine ⟨_, rfl, ?_⟩) | ((with_reducible refine gate_callee (f := 31) rfl ?_); refine goesL_ (some 54) rfl rfl Try.func31 (by kernel_rfl) rfl #[.bool t611, .int .i64 0, .int .u64 0] rfl ga ?_; (with_reducible refine (word_Make.calls t611 0 0 t612 _ A20.out).mono ?_); rintro e w' ⟨rfl, ⟨nd, rfl⟩⟩; refine ⟨_, rfl, ?_⟩))
        go_meet
        case rel => exact ⟨_, (t612), (0), (by first | rfl | (simp; done) | (simp [*]; done)), (by first | rfl | (simp; done) | (simp [*]; done)), H', ⟨by have := HJ4.out; have := HJ12.out; first | omega | exact Nat.le_refl _⟩, ⟨bel⟩⟩
       ·
        replace c18 := Bool.eq_false_iff.mpr c18
        subst c18
        rw [if_neg (show ¬ (false = true) by decide)] at H
        have H' := Aside0.mk H
        clear H
        go_wp2
        go_meet
        case rel => exact ⟨_, (t604), (t605), (by first | rfl | (simp; done) | (simp [*]; done)), (by first | rfl | (simp; done) | (simp [*]; done)), H', ⟨by have := HJ4.out; have := HJ12.out; first | omega | exact Nat.le_refl _⟩, ⟨bel⟩⟩
      case rest => as_aux_lemma =>
       clear HC17
       try clear c1
       try clear c2
       try clear p2
       try clear c3
       try clear c8
       try clear c10
       try clear c12
       try clear c15
       try clear c16
       try clear c18
       try clear p2
       obtain ⟨kq, x8_16, x9_16, rfl, rfl, HA, HJ16, HB⟩ := hcut
       cases kq with
       | zero => exact absurd HA.out (by simp [more_Fma.j2])
       | succ kj16 =>
        have H := HA.out
        clear HA
        simp only [more_Fma.j2] at H
        obtain ⟨⟨t613, t614⟩, A210, H⟩ := Option.bind_eq_some_iff.mp H
        (try dsimp -simprocs only at H)
        have A21 := Aside0.mk A210
        clear A210
        simp only [Option.some.injEq, Prod.mk.injEq] at H
        obtain ⟨rfl, rfl⟩ := H
        go_wp2_with (first | ((with_reducible refine gate_callee (f := 30) rfl ?_); refine goesL_ (some 58) rfl rfl Try.func30 (by kernel_rfl) rfl #[.int .u64 x8_16, .int .u64 a2] rfl ga ?_; (with_reducible refine (soft_Add.calls kj16 x8_16 a2 t613 t614 _ A21.out).mono ?_); rintro e w22 ⟨rfl, hb⟩; refine ⟨_, rfl, ?_⟩; have n0_ := Aside0.mk (below_step bel hb); clear HB; have HB := n0_; clear n0_; (try clear hb)))
        go_ret2
        exact ⟨er, bel⟩
   ·
    replace c12 := Bool.eq_false_iff.mpr c12
    subst c12
    rw [if_neg (show ¬ (false = true) by decide)] at H
    obtain ⟨⟨t615, t616⟩, A230, H⟩ := Option.bind_eq_some_iff.mp H
    (try dsimp -simprocs only at H)
    have A23 := Aside0.mk A230
    clear A230
    obtain ⟨⟨t617, t618⟩, A240, H⟩ := Option.bind_eq_some_iff.mp H
    (try dsimp -simprocs only at H)
    have A24 := Aside0.mk A240
    clear A240
    obtain ⟨t619, A250, H⟩ := Option.bind_eq_some_iff.mp H
    (try dsimp -simprocs only at H)
    have A25 := Aside0.mk A250
    clear A250
    obtain ⟨t620, A260, H⟩ := Option.bind_eq_some_iff.mp H
    (try dsimp -simprocs only at H)
    have A26 := Aside0.mk A260
    clear A260
    have HC27 := Aside0.mk H
    clear H
    go_upto_region 10 with (first | ((with_reducible refine gate_callee (f := 37) rfl ?_); refine goesL_ (some 68) rfl rfl Try.func37 (by kernel_rfl) rfl #[.int .u64 a0] rfl ga ?_; (with_reducible refine (word_Parts.calls kj4 a0 t615 t616 _ A23.out).mono ?_); rintro e w' ⟨rfl, ⟨nd, rfl⟩⟩; refine ⟨_, rfl, ?_⟩) | ((with_reducible refine gate_callee (f := 37) rfl ?_); refine goesL_ (some 73) rfl rfl Try.func37 (by kernel_rfl) rfl #[.int .u64 a1] rfl ga ?_; (with_reducible refine (word_Parts.calls kj4 a1 t617 t618 _ A24.out).mono ?_); rintro e w' ⟨rfl, ⟨nd, rfl⟩⟩; refine ⟨_, rfl, ?_⟩) | ((with_reducible refine gate_callee (f := 21) rfl ?_); refine goesL_ (some 77) rfl rfl Try.func21 (by kernel_rfl) rfl #[.int .u64 a0] rfl ga ?_; (with_reducible refine (word_Neg.calls a0 t619 _ A25.out).mono ?_); rintro e w' ⟨rfl, ⟨nd, rfl⟩⟩; refine ⟨_, rfl, ?_⟩) | ((with_reducible refine gate_callee (f := 21) rfl ?_); refine goesL_ (some 79) rfl rfl Try.func21 (by kernel_rfl) rfl #[.int .u64 a1] rfl ga ?_; (with_reducible refine (word_Neg.calls a1 t620 _ A26.out).mono ?_); rintro e w' ⟨rfl, ⟨nd, rfl⟩⟩; refine ⟨_, rfl, ?_⟩))
    (try simp only [Act.put, List.setIfInBounds_toArray, List.set_cons_zero, List.set_cons_succ])
    go_cut [16, 86] (fun v16 v86 wc => ∃ (kq : Nat) (x16_26 : Bool) (x86_26 : Bool), v16 = .bool x16_26 ∧ v86 = .bool x86_26 ∧ Aside0 (more_Fma.j3 kq a2 t615 t616 t617 t618 x16_26 x86_26 = some (r1, r2)) ∧ Aside0 (kq ≤ kj4) ∧ Aside0 (Below w.heap.size w wc))
    case first => as_aux_lemma =>
     have H := HC27.out
     clear HC27
     by_cases c28 : t615 = 0
     ·
      rw [if_pos c28] at H
      have c28b0 : (t615 == 0) = true := beq_iff_eq.mpr c28
      have c28b1 : (t615 != 0) = false := bne_eq_false_iff_eq.mpr c28
      clear c28
      (first | rw [c28b0] | (simp only [i64_w, i32_w]; rw [c28b0]) | skip)
      have H' := Aside0.mk H
      clear H
      go_wp2
      go_meet
      case rel => exact ⟨_, ((t619 != t620)), (true), (by first | rfl | (simp; done) | (simp [*]; done)), (by first | rfl | (simp; done) | (simp [*]; done)), H', ⟨by have := HJ4.out; first | omega | exact Nat.le_refl _⟩, ⟨bel⟩⟩
     ·
      rw [if_neg c28] at H
      have c28b0 : (t615 == 0) = false := beq_eq_false_iff_ne.mpr c28
      have c28b1 : (t615 != 0) = true := bne_iff_ne.mpr c28
      (first | rw [c28b0] | (simp only [i64_w, i32_w]; rw [c28b0]) | skip)
      have H' := Aside0.mk H
      clear H
      go_wp2
      go_meet
      case rel => exact ⟨_, ((t619 != t620)), ((t617 == 0)), (by first | rfl | (simp; done) | (simp [*]; done)), (by first | rfl | (simp; done) | (simp [*]; done)), H', ⟨by have := HJ4.out; first | omega | exact Nat.le_refl _⟩, ⟨bel⟩⟩
    case rest => as_aux_lemma =>
     clear HC27
     try clear c1
     try clear c2
     try clear p2
     try clear c3
     try clear c8
     try clear c10
     try clear c12
     try clear c15
     try clear c16
     try clear c18
     try clear c21
     try clear c27
     try clear c28
     try clear c28b0
     try clear c28b1
     try clear p2
     obtain ⟨kq, x16_26, x86_26, rfl, rfl, HA, HJ26, HB⟩ := hcut
     cases kq with
     | zero => exact absurd HA.out (by simp [more_Fma.j3])
     | succ kj26 =>
      have H := HA.out
      clear HA
      simp only [more_Fma.j3] at H
      by_cases c29 : x86_26 = true
      ·
       subst c29
       rw [if_pos rfl] at H
       obtain ⟨t621, A300, H⟩ := Option.bind_eq_some_iff.mp H
       (try dsimp -simprocs only at H)
       have A30 := Aside0.mk A300
       clear A300
       obtain ⟨⟨t622, t623⟩, A310, H⟩ := Option.bind_eq_some_iff.mp H
       (try dsimp -simprocs only at H)
       have A31 := Aside0.mk A310
       clear A310
       simp only [Option.some.injEq, Prod.mk.injEq] at H
       obtain ⟨rfl, rfl⟩ := H
       go_wp2_with (first | ((with_reducible refine gate_callee (f := 31) rfl ?_); refine goesL_ (some 88) rfl rfl Try.func31 (by kernel_rfl) rfl #[.bool x16_26, .int .i64 0, .int .u64 0] rfl ga ?_; (with_reducible refine (word_Make.calls x16_26 0 0 t621 _ A30.out).mono ?_); rintro e w' ⟨rfl, ⟨nd, rfl⟩⟩; refine ⟨_, rfl, ?_⟩) | ((with_reducible refine gate_callee (f := 30) rfl ?_); refine goesL_ (some 90) rfl rfl Try.func30 (by kernel_rfl) rfl #[.int .u64 t621, .int .u64 a2] rfl ga ?_; (with_reducible refine (soft_Add.calls kj26 t621 a2 t622 t623 _ A31.out).mono ?_); rintro e w32 ⟨rfl, hb⟩; refine ⟨_, rfl, ?_⟩; have n0_ := Aside0.mk (below_step bel hb); clear HB; have HB := n0_; clear n0_; (try clear hb)))
       go_ret2
       exact ⟨er, bel⟩
      ·
       replace c29 := Bool.eq_false_iff.mpr c29
       subst c29
       rw [if_neg (show ¬ (false = true) by decide)] at H
       obtain ⟨⟨t624, t625⟩, A330, H⟩ := Option.bind_eq_some_iff.mp H
       (try dsimp -simprocs only at H)
       have A33 := Aside0.mk A330
       clear A330
       obtain ⟨⟨t628, t629⟩, A340, H⟩ := Option.bind_eq_some_iff.mp H
       (try dsimp -simprocs only at H)
       have A34 := Aside0.mk A340
       clear A340
       by_cases c35 : t628 = 0
       ·
        rw [if_pos c35] at H
        have c35b0 : (t628 == 0) = true := beq_iff_eq.mpr c35
        have c35b1 : (t628 != 0) = false := bne_eq_false_iff_eq.mpr c35
        clear c35
        obtain ⟨⟨t630, t631⟩, A360, H⟩ := Option.bind_eq_some_iff.mp H
        (try dsimp -simprocs only at H)
        have A36 := Aside0.mk A360
        clear A360
        simp only [Option.some.injEq, Prod.mk.injEq] at H
        obtain ⟨rfl, rfl⟩ := H
        go_wp2_with (first | ((with_reducible refine gate_callee (f := 54) rfl ?_); refine goesL_ (some 95) rfl rfl Try.func54 (by kernel_rfl) rfl #[.int .u64 t615, .int .u64 t617] rfl ga ?_; (with_reducible refine (wide_Mul.calls t615 t617 t624 t625 _ A33.out).mono ?_); rintro e w37 ⟨rfl, hb⟩; refine ⟨_, rfl, ?_⟩; have n0_ := Aside0.mk (below_step bel hb); clear HB; have HB := n0_; clear n0_; (try clear hb)) | ((with_reducible refine gate_dst (N := 17) rfl ?_); refine box_event ?hg (N := 17) ?hd (cs := #[.int .u64 0, .int .u64 0]) (t := 55) ?hr ?_; (case hd => rfl); (case hg => rfl); (case hr => first | (go_simp; done) | (go_simp; rfl)); intro gb626 hg w38 hbox hb; have n0_ := Aside0.mk (below_step bel hb); have n1_ := Aside0.mk (hbox); have n2_ := Aside0.mk ((by rw [hg]; exact (below_size bel) : w.heap.size ≤ gb626)); have n3_ := Aside0.mk ((by rw [hg]; exact (below_size bel) : w.heap.size ≤ gb626)); clear HB; have HB := n0_; have BK626 := n1_; have GW626 := n2_; have GE626 := n3_; clear n0_ n1_ n2_ n3_; clear hb hbox hg) | ((with_reducible refine gate_dst (N := 18) rfl ?_); refine box_event ?hg (N := 18) ?hd (cs := #[.int .u64 0, .int .u64 0]) (t := 55) ?hr ?_; (case hd => rfl); (case hg => rfl); (case hr => first | (go_simp; done) | (go_simp; rfl)); intro gb627 hg w39 hbox hb; have n0_ := Aside0.mk (blk_below (g := gb626) (o := .cells #[.int .u64 0, .int .u64 0] 55 (0, 0)) (kb BK626) hb); have n1_ := Aside0.mk (below_step bes hb); have n2_ := Aside0.mk (hbox); have n3_ := Aside0.mk ((by rw [hg]; exact (below_size bes) : w.heap.size ≤ gb627)); have n4_ := Aside0.mk ((by rw [hg]; exact (below_size bes) : w.heap.size ≤ gb627)); have n5_ := Aside0.mk ((by rw [hg]; exact Nat.ne_of_lt (blk_lt (g := gb626) (o := .cells #[.int .u64 0, .int .u64 0] 55 (0, 0)) (kb BK626)) : gb626 ≠ gb627)); have n6_ := Aside0.mk ((by rw [hg]; exact Nat.ne_of_gt (blk_lt (g := gb626) (o := .cells #[.int .u64 0, .int .u64 0] 55 (0, 0)) (kb BK626)) : gb627 ≠ gb626)); clear BK626; clear HB; have BK626 := n0_; have HB := n1_; have BK627 := n2_; have GW627 := n3_; have GE627 := n4_; have NB626_627 := n5_; have NB627_626 := n6_; clear n0_ n1_ n2_ n3_ n4_ n5_ n6_; clear hb hbox hg; have hnb40 := NB626_627.out; have hnc40 := NB627_626.out; have hcz41_0 : w39.cell? ⟨gb626, 0, none⟩ = some (.int .u64 0) := (blk_cell BK626.out 0).trans rfl; have hcz41_1 : w39.cell? ⟨gb626, 1, none⟩ = some (.int .u64 0) := (blk_cell BK626.out 1).trans rfl; have hfz41_0 := blk_frozen BK626.out 0; have hfz41_1 := blk_frozen BK626.out 1; have hcz42_0 : w39.cell? ⟨gb627, 0, none⟩ = some (.int .u64 0) := (blk_cell BK627.out 0).trans rfl; have hcz42_1 : w39.cell? ⟨gb627, 1, none⟩ = some (.int .u64 0) := (blk_cell BK627.out 1).trans rfl; have hfz42_0 := blk_frozen BK627.out 0; have hfz42_1 := blk_frozen BK627.out 1) | ((with_reducible refine gate_callee (f := 37) rfl ?_); refine goesL_ (some 102) rfl rfl Try.func37 (by kernel_rfl) rfl #[.int .u64 a2] rfl ga ?_; (with_reducible refine (word_Parts.calls kj26 a2 t628 t629 _ A34.out).mono ?_); rintro e w' ⟨rfl, ⟨nd, rfl⟩⟩; refine ⟨_, rfl, ?_⟩) | ((with_reducible refine gate_callee (f := 41) rfl ?_); refine goesL_ (some 110) rfl rfl Try.func41 (by kernel_rfl) rfl #[.bool x16_26, .agg #[.int .u64 t624, .int .u64 t625], .int .i64 (wrap64 (t616 + t618)), .bool false] rfl ga ?_; (with_reducible refine (round_Round.calls kj26 x16_26 t624 t625 (wrap64 (t616 + t618)) false t630 t631 _ A36.out).mono ?_); rintro e w43 ⟨rfl, hb⟩; refine ⟨_, rfl, ?_⟩; have n0_ := Aside0.mk (blk_below (g := gb626) (o := .cells #[.int .u64 t624, .int .u64 t625] 55 (0, 0)) (by (with_reducible repeat (first | refine blk_drewN ?_ _ | refine blk_drew ?_ | refine blk_alloc ?_ _)); refine blk_far ?_ NB626_627.out _; (with_reducible repeat (first | refine blk_drewN ?_ _ | refine blk_drew ?_ | refine blk_alloc ?_ _)); refine blk_far ?_ NB626_627.out _; (with_reducible repeat (first | refine blk_drewN ?_ _ | refine blk_drew ?_ | refine blk_alloc ?_ _)); refine blk_put (cs := #[.int .u64 t624, .int .u64 0]) ?_ 1 _ rfl; (with_reducible repeat (first | refine blk_drewN ?_ _ | refine blk_drew ?_ | refine blk_alloc ?_ _)); refine blk_put (cs := #[.int .u64 0, .int .u64 0]) ?_ 0 _ rfl; (with_reducible repeat (first | refine blk_drewN ?_ _ | refine blk_drew ?_ | refine blk_alloc ?_ _)); exact BK626.out) hb); have n1_ := Aside0.mk (blk_below (g := gb627) (o := .cells #[.int .u64 0, .int .u64 0] 55 (0, 0)) (by (with_reducible repeat (first | refine blk_drewN ?_ _ | refine blk_drew ?_ | refine blk_alloc ?_ _)); refine blk_put (cs := #[.int .u64 0, .int .u64 0]) ?_ 1 _ rfl; (with_reducible repeat (first | refine blk_drewN ?_ _ | refine blk_drew ?_ | refine blk_alloc ?_ _)); refine blk_put (cs := #[.int .u64 0, .int .u64 0]) ?_ 0 _ rfl; (with_reducible repeat (first | refine blk_drewN ?_ _ | refine blk_drew ?_ | refine blk_alloc ?_ _)); refine blk_far ?_ NB627_626.out _; (with_reducible repeat (first | refine blk_drewN ?_ _ | refine blk_drew ?_ | refine blk_alloc ?_ _)); refine blk_far ?_ NB627_626.out _; (with_reducible repeat (first | refine blk_drewN ?_ _ | refine blk_drew ?_ | refine blk_alloc ?_ _)); exact BK627.out) hb); have n2_ := Aside0.mk (below_step bes hb); clear BK626; clear BK627; clear HB; have BK626 := n0_; have BK627 := n1_; have HB := n2_; clear n0_ n1_ n2_; (try clear hb)))
        go_ret2
        exact ⟨er, bes⟩
       ·
        rw [if_neg c35] at H
        have c35b0 : (t628 == 0) = false := beq_eq_false_iff_ne.mpr c35
        have c35b1 : (t628 != 0) = true := bne_iff_ne.mpr c35
        obtain ⟨t632, A440, H⟩ := Option.bind_eq_some_iff.mp H
        (try dsimp -simprocs only at H)
        have A44 := Aside0.mk A440
        clear A440
        obtain ⟨⟨t633, t634⟩, A450, H⟩ := Option.bind_eq_some_iff.mp H
        (try dsimp -simprocs only at H)
        have A45 := Aside0.mk A450
        clear A450
        obtain ⟨t635, A460, H⟩ := Option.bind_eq_some_iff.mp H
        (try dsimp -simprocs only at H)
        have A46 := Aside0.mk A460
        clear A460
        obtain ⟨t636, A470, H⟩ := Option.bind_eq_some_iff.mp H
        (try dsimp -simprocs only at H)
        have A47 := Aside0.mk A470
        clear A470
        obtain ⟨⟨t637, t638⟩, A480, H⟩ := Option.bind_eq_some_iff.mp H
        (try dsimp -simprocs only at H)
        have A48 := Aside0.mk A480
        clear A480
        obtain ⟨t639, A490, H⟩ := Option.bind_eq_some_iff.mp H
        (try dsimp -simprocs only at H)
        have A49 := Aside0.mk A490
        clear A490
        obtain ⟨t640, A500, H⟩ := Option.bind_eq_some_iff.mp H
        (try dsimp -simprocs only at H)
        have A50 := Aside0.mk A500
        clear A500
        have HC51 := Aside0.mk H
        clear H
        try go_wp2_with (first | ((with_reducible refine gate_callee (f := 54) rfl ?_); refine goesL_ (some 95) rfl rfl Try.func54 (by kernel_rfl) rfl #[.int .u64 t615, .int .u64 t617] rfl ga ?_; (with_reducible refine (wide_Mul.calls t615 t617 t624 t625 _ A33.out).mono ?_); rintro e w52 ⟨rfl, hb⟩; refine ⟨_, rfl, ?_⟩; have n0_ := Aside0.mk (below_step bel hb); clear HB; have HB := n0_; clear n0_; (try clear hb)) | ((with_reducible refine gate_dst (N := 17) rfl ?_); refine box_event ?hg (N := 17) ?hd (cs := #[.int .u64 0, .int .u64 0]) (t := 55) ?hr ?_; (case hd => rfl); (case hg => rfl); (case hr => first | (go_simp; done) | (go_simp; rfl)); intro gb626 hg w53 hbox hb; have n0_ := Aside0.mk (below_step bel hb); have n1_ := Aside0.mk (hbox); have n2_ := Aside0.mk ((by rw [hg]; exact (below_size bel) : w.heap.size ≤ gb626)); have n3_ := Aside0.mk ((by rw [hg]; exact (below_size bel) : w.heap.size ≤ gb626)); clear HB; have HB := n0_; have BK626 := n1_; have GW626 := n2_; have GE626 := n3_; clear n0_ n1_ n2_ n3_; clear hb hbox hg) | ((with_reducible refine gate_dst (N := 18) rfl ?_); refine box_event ?hg (N := 18) ?hd (cs := #[.int .u64 0, .int .u64 0]) (t := 55) ?hr ?_; (case hd => rfl); (case hg => rfl); (case hr => first | (go_simp; done) | (go_simp; rfl)); intro gb627 hg w54 hbox hb; have n0_ := Aside0.mk (blk_below (g := gb626) (o := .cells #[.int .u64 0, .int .u64 0] 55 (0, 0)) (kb BK626) hb); have n1_ := Aside0.mk (below_step bes hb); have n2_ := Aside0.mk (hbox); have n3_ := Aside0.mk ((by rw [hg]; exact (below_size bes) : w.heap.size ≤ gb627)); have n4_ := Aside0.mk ((by rw [hg]; exact (below_size bes) : w.heap.size ≤ gb627)); have n5_ := Aside0.mk ((by rw [hg]; exact Nat.ne_of_lt (blk_lt (g := gb626) (o := .cells #[.int .u64 0, .int .u64 0] 55 (0, 0)) (kb BK626)) : gb626 ≠ gb627)); have n6_ := Aside0.mk ((by rw [hg]; exact Nat.ne_of_gt (blk_lt (g := gb626) (o := .cells #[.int .u64 0, .int .u64 0] 55 (0, 0)) (kb BK626)) : gb627 ≠ gb626)); clear BK626; clear HB; have BK626 := n0_; have HB := n1_; have BK627 := n2_; have GW627 := n3_; have GE627 := n4_; have NB626_627 := n5_; have NB627_626 := n6_; clear n0_ n1_ n2_ n3_ n4_ n5_ n6_; clear hb hbox hg; have hnb55 := NB626_627.out; have hnc55 := NB627_626.out; have hcz56_0 : w54.cell? ⟨gb626, 0, none⟩ = some (.int .u64 0) := (blk_cell BK626.out 0).trans rfl; have hcz56_1 : w54.cell? ⟨gb626, 1, none⟩ = some (.int .u64 0) := (blk_cell BK626.out 1).trans rfl; have hfz56_0 := blk_frozen BK626.out 0; have hfz56_1 := blk_frozen BK626.out 1; have hcz57_0 : w54.cell? ⟨gb627, 0, none⟩ = some (.int .u64 0) := (blk_cell BK627.out 0).trans rfl; have hcz57_1 : w54.cell? ⟨gb627, 1, none⟩ = some (.int .u64 0) := (blk_cell BK627.out 1).trans rfl; have hfz57_0 := blk_frozen BK627.out 0; have hfz57_1 := blk_frozen BK627.out 1) | ((with_reducible refine gate_callee (f := 37) rfl ?_); refine goesL_ (some 102) rfl rfl Try.func37 (by kernel_rfl) rfl #[.int .u64 a2] rfl ga ?_; (with_reducible refine (word_Parts.calls kj26 a2 t628 t629 _ A34.out).mono ?_); rintro e w' ⟨rfl, ⟨nd, rfl⟩⟩; refine ⟨_, rfl, ?_⟩))
        have n0_ : Aside0 (((((w54.setCell ⟨gb626, 0, none⟩ (.int .u64 t624)).setCell ⟨gb626, 1, none⟩ (.int .u64 t625)).setCell ⟨gb627, 0, none⟩ (.int .u64 0)).setCell ⟨gb627, 1, none⟩ (.int .u64 0)).heap[gb626]? = some (.cells #[.int .u64 t624, .int .u64 t625] 55 (0, 0))) := ⟨by (with_reducible repeat (first | refine blk_drewN ?_ _ | refine blk_drew ?_ | refine blk_alloc ?_ _)); refine blk_far ?_ NB626_627.out _; (with_reducible repeat (first | refine blk_drewN ?_ _ | refine blk_drew ?_ | refine blk_alloc ?_ _)); refine blk_far ?_ NB626_627.out _; (with_reducible repeat (first | refine blk_drewN ?_ _ | refine blk_drew ?_ | refine blk_alloc ?_ _)); refine blk_put (cs := #[.int .u64 t624, .int .u64 0]) ?_ 1 _ rfl; (with_reducible repeat (first | refine blk_drewN ?_ _ | refine blk_drew ?_ | refine blk_alloc ?_ _)); refine blk_put (cs := #[.int .u64 0, .int .u64 0]) ?_ 0 _ rfl; (with_reducible repeat (first | refine blk_drewN ?_ _ | refine blk_drew ?_ | refine blk_alloc ?_ _)); exact BK626.out⟩
        have n1_ : Aside0 (((((w54.setCell ⟨gb626, 0, none⟩ (.int .u64 t624)).setCell ⟨gb626, 1, none⟩ (.int .u64 t625)).setCell ⟨gb627, 0, none⟩ (.int .u64 0)).setCell ⟨gb627, 1, none⟩ (.int .u64 0)).heap[gb627]? = some (.cells #[.int .u64 0, .int .u64 0] 55 (0, 0))) := ⟨by (with_reducible repeat (first | refine blk_drewN ?_ _ | refine blk_drew ?_ | refine blk_alloc ?_ _)); refine blk_put (cs := #[.int .u64 0, .int .u64 0]) ?_ 1 _ rfl; (with_reducible repeat (first | refine blk_drewN ?_ _ | refine blk_drew ?_ | refine blk_alloc ?_ _)); refine blk_put (cs := #[.int .u64 0, .int .u64 0]) ?_ 0 _ rfl; (with_reducible repeat (first | refine blk_drewN ?_ _ | refine blk_drew ?_ | refine blk_alloc ?_ _)); refine blk_far ?_ NB627_626.out _; (with_reducible repeat (first | refine blk_drewN ?_ _ | refine blk_drew ?_ | refine blk_alloc ?_ _)); refine blk_far ?_ NB627_626.out _; (with_reducible repeat (first | refine blk_drewN ?_ _ | refine blk_drew ?_ | refine blk_alloc ?_ _)); exact BK627.out⟩
        have n2_ : Aside0 (Below w.heap.size w ((((w54.setCell ⟨gb626, 0, none⟩ (.int .u64 t624)).setCell ⟨gb626, 1, none⟩ (.int .u64 t625)).setCell ⟨gb627, 0, none⟩ (.int .u64 0)).setCell ⟨gb627, 1, none⟩ (.int .u64 0))) := ⟨bes⟩
        (try clear BK626)
        (try clear BK627)
        (try clear HB)
        generalize ((((w54.setCell ⟨gb626, 0, none⟩ (.int .u64 t624)).setCell ⟨gb626, 1, none⟩ (.int .u64 t625)).setCell ⟨gb627, 0, none⟩ (.int .u64 0)).setCell ⟨gb627, 1, none⟩ (.int .u64 0)) = w58 at n0_ n1_ n2_ ⊢
        have BK626 := n0_
        have BK627 := n1_
        have HB := n2_
        clear n0_ n1_ n2_
        (try (rw [drewN_self w58]; generalize hq_ : World.drewN w58 _ = w58; have n0_ : Aside0 (w58.heap[gb626]? = some (.cells #[.int .u64 t624, .int .u64 t625] 55 (0, 0))) := ⟨by rw [← hq_]; exact (kb BK626)⟩; have n1_ : Aside0 (w58.heap[gb627]? = some (.cells #[.int .u64 0, .int .u64 0] 55 (0, 0))) := ⟨by rw [← hq_]; exact (kb BK627)⟩; have n2_ : Aside0 (Below w.heap.size w w58) := ⟨by rw [← hq_]; exact bes⟩; clear BK626 BK627 HB hq_; have BK626 := n0_; have BK627 := n1_; have HB := n2_; clear n0_ n1_ n2_))
        have n0_ := Aside0.mk (blk_drew BK626.out)
        have n1_ := Aside0.mk (blk_drew BK627.out)
        have n2_ := Aside0.mk (below_drew1 HB.out)
        clear BK626
        clear BK627
        clear HB
        have BK626 := n0_
        have BK627 := n1_
        have HB := n2_
        clear n0_ n1_ n2_
        refine start_ (n := 12) (S := fun w' => w'.cell? ⟨gb626, 0, none⟩ = some (.int .u64 t624) ∧ w'.cell? ⟨gb626, 1, none⟩ = some (.int .u64 t625)) (ds := [10]) #[false, false, false, false, false, false, false, false, false, false, false, false] (by kernel_rfl) rfl rfl ⟨(blk_cell BK626.out 0).trans rfl, (blk_cell BK626.out 1).trans rfl⟩ (fun hHeld => ?_); refine with_tabW more_Fma.tab17 more_Fma.bits17 (fun HT_ HW_ => ?_)
        generalize w58.drew = w59 at BK626 BK627 HB hHeld ⊢
        refine pure_ (i := 5) (N := some 118) (v := ?_) (a' := ?_) #[false, false, false, false, false, true, false, false, false, false, false, false] rfl rfl (any_of HT_.out (by kernel_rfl)) (fun _ _ _ h => h) (Or.inl ⟨by rfl, ?_⟩) ?_ ?_
        rotate_left
        ·
         intro w'
         go_simp
         with_reducible rfl
        rotate_left
        ·
         simp only [Act.put, List.setIfInBounds_toArray, List.set_cons_zero, List.set_cons_succ, i64_w, i32_w]
         rfl
        refine pure_ (i := 6) (N := some 119) (v := ?_) (a' := ?_) #[false, false, false, false, false, true, true, false, false, false, false, false] rfl rfl (any_of HT_.out (by kernel_rfl)) (fun _ _ _ h => h) (Or.inl ⟨by rfl, ?_⟩) ?_ ?_
        rotate_left
        ·
         intro w'
         go_simp
         with_reducible rfl
        rotate_left
        ·
         simp only [Act.put, List.setIfInBounds_toArray, List.set_cons_zero, List.set_cons_succ, i64_w, i32_w]
         rfl
        refine take_ (i := 0) (N := some 113) (v := ?_) (a' := ?_) #[true, false, false, false, false, true, true, false, false, false, false, false] rfl rfl (take_ofW HT_.out HW_.out (by kernel_rfl)) (fun _ _ _ h => h) (Or.inl ⟨by rfl, ?_⟩) hHeld ?_ ?_
        rotate_left
        ·
         rintro w' ⟨s0, s1⟩
         go_simp
         with_reducible rfl
        rotate_left
        ·
         simp only [Act.put, List.setIfInBounds_toArray, List.set_cons_zero, List.set_cons_succ, i64_w, i32_w]
         rfl
        refine take_ (i := 1) (N := some 114) (v := ?_) (a' := ?_) #[true, true, false, false, false, true, true, false, false, false, false, false] rfl rfl (take_ofW HT_.out HW_.out (by kernel_rfl)) (fun _ _ _ h => h) (Or.inl ⟨by rfl, ?_⟩) hHeld ?_ ?_
        rotate_left
        ·
         rintro w' ⟨s0, s1⟩
         go_simp
         with_reducible rfl
        rotate_left
        ·
         simp only [Act.put, List.setIfInBounds_toArray, List.set_cons_zero, List.set_cons_succ, i64_w, i32_w]
         rfl
        refine take_ (i := 7) (N := some 120) (v := ?_) (a' := ?_) #[true, true, false, false, false, true, true, true, false, false, false, false] rfl rfl (take_ofW HT_.out HW_.out (by kernel_rfl)) (fun _ _ _ h => h) (Or.inl ⟨by rfl, ?_⟩) hHeld ?_ ?_
        rotate_left
        ·
         rintro w' ⟨s0, s1⟩
         go_simp
         with_reducible rfl
        rotate_left
        ·
         simp only [Act.put, List.setIfInBounds_toArray, List.set_cons_zero, List.set_cons_succ, i64_w, i32_w]
         rfl
        refine one_ (i := 2) (N := some 115) #[true, true, true, false, false, true, true, true, false, false, false, false] rfl rfl (one_of HT_.out (by kernel_rfl)) (by decide) (fun K hK => ?_)
        refine goes_ Try.func55 (by kernel_rfl) rfl #[.agg #[.int .u64 t624, .int .u64 t625]] (by rfl) rfl rfl ga ?_
        with_reducible refine (wide_Wide_Len.calls kj26 t624 t625 t632 _ A44.out).mono ?_
        rintro e w60 ⟨rfl, hb⟩
        refine ⟨_, rfl, ?_⟩
        have n0_ := Aside0.mk (blk_below (g := gb626) (o := .cells #[.int .u64 t624, .int .u64 t625] 55 (0, 0)) (kb BK626) hb)
        have n1_ := Aside0.mk (blk_below (g := gb627) (o := .cells #[.int .u64 0, .int .u64 0] 55 (0, 0)) (kb BK627) hb)
        have n2_ := Aside0.mk (below_step bes hb)
        clear BK626
        clear BK627
        clear HB
        have BK626 := n0_
        have BK627 := n1_
        have HB := n2_
        clear n0_ n1_ n2_
        (try clear hb)
        (try clear hb2)
        (try clear hk)
        (try clear hi)
        refine hK.out _ _ ⟨(blk_cell BK626.out 0).trans rfl, (blk_cell BK626.out 1).trans rfl⟩ (fun hHeld => ?_)
        clear hK K
        refine norm_ (a' := ?_) ?_ ?_
        rotate_left
        ·
         show Act.put _ (some 115) _ = _
         simp only [Act.put, List.setIfInBounds_toArray, List.set_cons_zero, List.set_cons_succ, i64_w, i32_w]
         rfl
        refine pure_ (i := 3) (N := some 116) (v := ?_) (a' := ?_) #[true, true, true, true, false, true, true, true, false, false, false, false] rfl rfl (any_of HT_.out (by kernel_rfl)) (fun _ _ _ h => h) (Or.inl ⟨by rfl, ?_⟩) ?_ ?_
        rotate_left
        ·
         intro w'
         go_simp
         with_reducible rfl
        rotate_left
        ·
         simp only [Act.put, List.setIfInBounds_toArray, List.set_cons_zero, List.set_cons_succ, i64_w, i32_w]
         rfl
        refine one_ (i := 4) (N := some 117) #[true, true, true, true, true, true, true, true, false, false, false, false] rfl rfl (one_of HT_.out (by kernel_rfl)) (by decide) (fun K hK => ?_)
        refine goes_ Try.func39 (by kernel_rfl) rfl #[.agg #[.int .u64 t624, .int .u64 t625], .int .i64 (wrap64 (126 - t632))] (by rfl) rfl rfl ga ?_
        with_reducible refine (wide_Wide_Left.calls t624 t625 (wrap64 (126 - t632)) t633 t634 _ A45.out).mono ?_
        rintro e w61 ⟨rfl, hb⟩
        refine ⟨_, rfl, ?_⟩
        have n0_ := Aside0.mk (blk_below (g := gb626) (o := .cells #[.int .u64 t624, .int .u64 t625] 55 (0, 0)) (kb BK626) hb)
        have n1_ := Aside0.mk (blk_below (g := gb627) (o := .cells #[.int .u64 0, .int .u64 0] 55 (0, 0)) (kb BK627) hb)
        have n2_ := Aside0.mk (below_step bes hb)
        clear BK626
        clear BK627
        clear HB
        have BK626 := n0_
        have BK627 := n1_
        have HB := n2_
        clear n0_ n1_ n2_
        (try clear hb)
        (try clear hb2)
        (try clear hk)
        (try clear hi)
        refine hK.out _ _ ⟨(blk_cell BK626.out 0).trans rfl, (blk_cell BK626.out 1).trans rfl⟩ (fun hHeld => ?_)
        clear hK K
        refine norm_ (a' := ?_) ?_ ?_
        rotate_left
        ·
         show Act.put _ (some 117) _ = _
         simp only [Act.put, List.setIfInBounds_toArray, List.set_cons_zero, List.set_cons_succ, i64_w, i32_w]
         rfl
        refine one_ (i := 8) (N := some 121) #[true, true, true, true, true, true, true, true, true, false, false, false] rfl rfl (one_of HT_.out (by kernel_rfl)) (by decide) (fun K hK => ?_)
        refine goes_ Try.func55 (by kernel_rfl) rfl #[.agg #[.int .u64 t624, .int .u64 t625]] (by rfl) rfl rfl ga ?_
        with_reducible refine (wide_Wide_Len.calls kj26 t624 t625 t635 _ A46.out).mono ?_
        rintro e w62 ⟨rfl, hb⟩
        refine ⟨_, rfl, ?_⟩
        have n0_ := Aside0.mk (blk_below (g := gb626) (o := .cells #[.int .u64 t624, .int .u64 t625] 55 (0, 0)) (kb BK626) hb)
        have n1_ := Aside0.mk (blk_below (g := gb627) (o := .cells #[.int .u64 0, .int .u64 0] 55 (0, 0)) (kb BK627) hb)
        have n2_ := Aside0.mk (below_step bes hb)
        clear BK626
        clear BK627
        clear HB
        have BK626 := n0_
        have BK627 := n1_
        have HB := n2_
        clear n0_ n1_ n2_
        (try clear hb)
        (try clear hb2)
        (try clear hk)
        (try clear hi)
        refine hK.out _ _ ⟨(blk_cell BK626.out 0).trans rfl, (blk_cell BK626.out 1).trans rfl⟩ (fun hHeld => ?_)
        clear hK K
        refine norm_ (a' := ?_) ?_ ?_
        rotate_left
        ·
         show Act.put _ (some 121) _ = _
         simp only [Act.put, List.setIfInBounds_toArray, List.set_cons_zero, List.set_cons_succ, i64_w, i32_w]
         rfl
        refine pure_ (i := 9) (N := some 122) (v := ?_) (a' := ?_) #[true, true, true, true, true, true, true, true, true, true, false, false] rfl rfl (any_of HT_.out (by kernel_rfl)) (fun _ _ _ h => h) (Or.inl ⟨by rfl, ?_⟩) ?_ ?_
        rotate_left
        ·
         intro w'
         go_simp
         with_reducible rfl
        rotate_left
        ·
         simp only [Act.put, List.setIfInBounds_toArray, List.set_cons_zero, List.set_cons_succ, i64_w, i32_w]
         rfl
        refine last_ (i := 10) (N := none) #[true, true, true, true, true, true, true, true, true, true, true, false] rfl rfl (one_of HT_.out (by kernel_rfl)) (by decide) (fun K hK => ?_)
        have hs63 : w62.cell? ⟨gb626, 0, none⟩ = some (.int .u64 t624) := (blk_cell BK626.out 0).trans rfl
        have hfs63 := blk_frozen BK626.out 0
        have hns63_1 := NB627_626.out
        have hms63_1 := NB626_627.out
        have hs64 : w62.cell? ⟨gb626, 1, none⟩ = some (.int .u64 t625) := (blk_cell BK626.out 1).trans rfl
        have hfs64 := blk_frozen BK626.out 1
        have hns64_1 := NB627_626.out
        have hms64_1 := NB626_627.out
        refine skip_ (w1 := ?_) (by rfl) rfl ?_ ?_
        rotate_left
        ·
         go_simp
         rfl
        refine hK.out _ _ ?_
        clear hK K
        refine pure_ (i := 11) (N := some 13) (v := ?_) (a' := ?_) #[true, true, true, true, true, true, true, true, true, true, true, true] rfl rfl (any_of HT_.out (by kernel_rfl)) (fun _ _ _ h => h) (Or.inl ⟨by rfl, ?_⟩) ?_ ?_
        rotate_left
        ·
         intro w'
         go_simp
         with_reducible rfl
        rotate_left
        ·
         simp only [Act.put, List.setIfInBounds_toArray, List.set_cons_zero, List.set_cons_succ, i64_w, i32_w]
         rfl
        refine done_ (done_of HT_.out (by kernel_rfl)) ?_
        go_upto_region 20 with (first | ((with_reducible refine gate_callee (f := 38) rfl ?_); refine goesL_ (some 126) rfl rfl Try.func38 (by kernel_rfl) rfl #[.int .u64 t628] rfl ga ?_; (with_reducible refine (bits_Len64.calls kj26 t628 t636 _ A47.out).mono ?_); rintro e w' ⟨rfl, ⟨nd, rfl⟩⟩; refine ⟨_, rfl, ?_⟩) | ((with_reducible refine gate_callee (f := 39) rfl ?_); refine goesL_ (some 128) rfl rfl Try.func39 (by kernel_rfl) rfl #[.agg #[.int .u64 0, .int .u64 t628], .int .i64 (wrap64 (126 - t636))] rfl ga ?_; (with_reducible refine (wide_Wide_Left.calls 0 t628 (wrap64 (126 - t636)) t637 t638 _ A48.out).mono ?_); rintro e w65 ⟨rfl, hb⟩; refine ⟨_, rfl, ?_⟩; have n0_ := Aside0.mk (blk_below (g := gb626) (o := .cells #[.int .u64 t633, .int .u64 t634] 55 (0, 0)) (by (with_reducible repeat (first | refine blk_drewN ?_ _ | refine blk_drew ?_ | refine blk_alloc ?_ _)); refine blk_put (cs := #[.int .u64 t633, .int .u64 t625]) ?_ 1 _ rfl; (with_reducible repeat (first | refine blk_drewN ?_ _ | refine blk_drew ?_ | refine blk_alloc ?_ _)); refine blk_put (cs := #[.int .u64 t624, .int .u64 t625]) ?_ 0 _ rfl; (with_reducible repeat (first | refine blk_drewN ?_ _ | refine blk_drew ?_ | refine blk_alloc ?_ _)); exact BK626.out) hb); have n1_ := Aside0.mk (blk_below (g := gb627) (o := .cells #[.int .u64 0, .int .u64 0] 55 (0, 0)) (by (with_reducible repeat (first | refine blk_drewN ?_ _ | refine blk_drew ?_ | refine blk_alloc ?_ _)); refine blk_far ?_ NB627_626.out _; (with_reducible repeat (first | refine blk_drewN ?_ _ | refine blk_drew ?_ | refine blk_alloc ?_ _)); refine blk_far ?_ NB627_626.out _; (with_reducible repeat (first | refine blk_drewN ?_ _ | refine blk_drew ?_ | refine blk_alloc ?_ _)); exact BK627.out) hb); have n2_ := Aside0.mk (below_step bes hb); clear BK626; clear BK627; clear HB; have BK626 := n0_; have BK627 := n1_; have HB := n2_; clear n0_ n1_ n2_; (try clear hb)) | ((with_reducible refine gate_callee (f := 38) rfl ?_); refine goesL_ (some 132) rfl rfl Try.func38 (by kernel_rfl) rfl #[.int .u64 t628] rfl ga ?_; (with_reducible refine (bits_Len64.calls kj26 t628 t639 _ A49.out).mono ?_); rintro e w' ⟨rfl, ⟨nd, rfl⟩⟩; refine ⟨_, rfl, ?_⟩; (try (rw [drewN_self w65]; generalize hq_ : World.drewN w65 _ = w65; have n0_ : Aside0 (w65.heap[gb626]? = some (.cells #[.int .u64 t633, .int .u64 t634] 55 (0, 0))) := ⟨by rw [← hq_]; exact (kb BK626)⟩; have n1_ : Aside0 (w65.heap[gb627]? = some (.cells #[.int .u64 0, .int .u64 0] 55 (0, 0))) := ⟨by rw [← hq_]; exact (kb BK627)⟩; have n2_ : Aside0 (Below w.heap.size w w65) := ⟨by rw [← hq_]; exact bes⟩; clear BK626 BK627 HB hq_; have BK626 := n0_; have BK627 := n1_; have HB := n2_; clear n0_ n1_ n2_)); have hcz66_0 : w65.cell? ⟨gb627, 0, none⟩ = some (.int .u64 0) := (blk_cell BK627.out 0).trans rfl; have hcz66_1 : w65.cell? ⟨gb627, 1, none⟩ = some (.int .u64 0) := (blk_cell BK627.out 1).trans rfl; have hfz66_0 := blk_frozen BK627.out 0; have hfz66_1 := blk_frozen BK627.out 1) | ((with_reducible refine gate_callee (f := 21) rfl ?_); refine goesL_ (some 135) rfl rfl Try.func21 (by kernel_rfl) rfl #[.int .u64 a2] rfl ga ?_; (with_reducible refine (word_Neg.calls a2 t640 _ A50.out).mono ?_); rintro e w' ⟨rfl, ⟨nd, rfl⟩⟩; refine ⟨_, rfl, ?_⟩))
        (try simp only [Act.put, List.setIfInBounds_toArray, List.set_cons_zero, List.set_cons_succ])
        go_cut [149] (fun v149 wc => ∃ (kq : Nat) (x149_50 : Bool), v149 = .bool x149_50 ∧ Aside0 (more_Fma.j4 kq (wrap64 ((wrap64 ((wrap64 (t616 + t618)) - 126)) + t635)) x16_26 (wrap64 ((wrap64 (t629 - 126)) + t639)) t640 x149_50 t633 t634 t637 t638 = some (r1, r2)) ∧ Aside0 (kq ≤ kj26) ∧ Aside0 (wc.heap[gb626]? = some (.cells #[.int .u64 t633, .int .u64 t634] 55 (0, 0))) ∧ Aside0 (wc.heap[gb627]? = some (.cells #[.int .u64 t637, .int .u64 t638] 55 (0, 0))) ∧ Aside0 (Below w.heap.size w wc))
        case first => as_aux_lemma =>
         have H := HC51.out
         clear HC51
         by_cases c67 : (wrap64 ((wrap64 ((wrap64 (t616 + t618)) - 126)) + t635)) < (wrap64 ((wrap64 (t629 - 126)) + t639))
         ·
          rw [if_pos c67] at H
          have c67b0 : decide ((wrap64 ((wrap64 ((wrap64 (t616 + t618)) - 126)) + t635)) < (wrap64 ((wrap64 (t629 - 126)) + t639))) = true := decide_eq_true c67
          clear c67
          (first | rw [c67b0] | (simp only [i64_w, i32_w]; rw [c67b0]) | skip)
          have H' := Aside0.mk H
          clear H
          go_wp2
          go_meet
          case rel => exact ⟨_, (true), (by first | rfl | (simp; done) | (simp [*]; done)), H', ⟨by have := HJ4.out; have := HJ26.out; first | omega | exact Nat.le_refl _⟩, ⟨by (with_reducible repeat (first | refine blk_drewN ?_ _ | refine blk_drew ?_ | refine blk_alloc ?_ _)); refine blk_far ?_ NB626_627.out _; (with_reducible repeat (first | refine blk_drewN ?_ _ | refine blk_drew ?_ | refine blk_alloc ?_ _)); refine blk_far ?_ NB626_627.out _; (with_reducible repeat (first | refine blk_drewN ?_ _ | refine blk_drew ?_ | refine blk_alloc ?_ _)); exact BK626.out⟩, ⟨by (with_reducible repeat (first | refine blk_drewN ?_ _ | refine blk_drew ?_ | refine blk_alloc ?_ _)); refine blk_put (cs := #[.int .u64 t637, .int .u64 0]) ?_ 1 _ rfl; (with_reducible repeat (first | refine blk_drewN ?_ _ | refine blk_drew ?_ | refine blk_alloc ?_ _)); refine blk_put (cs := #[.int .u64 0, .int .u64 0]) ?_ 0 _ rfl; (with_reducible repeat (first | refine blk_drewN ?_ _ | refine blk_drew ?_ | refine blk_alloc ?_ _)); exact BK627.out⟩, ⟨bes⟩⟩
         ·
          rw [if_neg c67] at H
          have c67b0 : decide ((wrap64 ((wrap64 ((wrap64 (t616 + t618)) - 126)) + t635)) < (wrap64 ((wrap64 (t629 - 126)) + t639))) = false := decide_eq_false c67
          clear c67
          (first | rw [c67b0] | (simp only [i64_w, i32_w]; rw [c67b0]) | skip)
          by_cases c68 : (wrap64 ((wrap64 ((wrap64 (t616 + t618)) - 126)) + t635)) = (wrap64 ((wrap64 (t629 - 126)) + t639))
          ·
           rw [if_pos c68] at H
           have c68b0 : ((wrap64 ((wrap64 ((wrap64 (t616 + t618)) - 126)) + t635)) == (wrap64 ((wrap64 (t629 - 126)) + t639))) = true := beq_iff_eq.mpr c68
           have c68b1 : ((wrap64 ((wrap64 ((wrap64 (t616 + t618)) - 126)) + t635)) != (wrap64 ((wrap64 (t629 - 126)) + t639))) = false := bne_eq_false_iff_eq.mpr c68
           clear c68
           obtain ⟨t641, A690, H⟩ := Option.bind_eq_some_iff.mp H
           (try dsimp -simprocs only at H)
           have A69 := Aside0.mk A690
           clear A690
           have H' := Aside0.mk H
           clear H
           have hnb70 := NB626_627.out
           have hnc70 := NB627_626.out
           have hcz71_0 : w65.cell? ⟨gb626, 0, none⟩ = some (.int .u64 t633) := (blk_cell BK626.out 0).trans rfl
           have hcz71_1 : w65.cell? ⟨gb626, 1, none⟩ = some (.int .u64 t634) := (blk_cell BK626.out 1).trans rfl
           have hfz71_0 := blk_frozen BK626.out 0
           have hfz71_1 := blk_frozen BK626.out 1
           have hcz72_0 : w65.cell? ⟨gb627, 0, none⟩ = some (.int .u64 0) := (blk_cell BK627.out 0).trans rfl
           have hcz72_1 : w65.cell? ⟨gb627, 1, none⟩ = some (.int .u64 0) := (blk_cell BK627.out 1).trans rfl
           have hfz72_0 := blk_frozen BK627.out 0
           have hfz72_1 := blk_frozen BK627.out 1
           go_wp2_with (first | (go_at_call 56; (with_reducible refine (wide_Wide_Cmp.calls kj26 t633 t634 t637 t638 t641 _ A69.out).mono ?_); rintro e w73 ⟨rfl, hb⟩; have n0_ := Aside0.mk (blk_below (g := gb626) (o := .cells #[.int .u64 t633, .int .u64 t634] 55 (0, 0)) (by (with_reducible repeat (first | refine blk_drewN ?_ _ | refine blk_drew ?_ | refine blk_alloc ?_ _)); refine blk_far ?_ NB626_627.out _; (with_reducible repeat (first | refine blk_drewN ?_ _ | refine blk_drew ?_ | refine blk_alloc ?_ _)); refine blk_far ?_ NB626_627.out _; (with_reducible repeat (first | refine blk_drewN ?_ _ | refine blk_drew ?_ | refine blk_alloc ?_ _)); exact BK626.out) hb); have n1_ := Aside0.mk (blk_below (g := gb627) (o := .cells #[.int .u64 t637, .int .u64 t638] 55 (0, 0)) (by (with_reducible repeat (first | refine blk_drewN ?_ _ | refine blk_drew ?_ | refine blk_alloc ?_ _)); refine blk_put (cs := #[.int .u64 t637, .int .u64 0]) ?_ 1 _ rfl; (with_reducible repeat (first | refine blk_drewN ?_ _ | refine blk_drew ?_ | refine blk_alloc ?_ _)); refine blk_put (cs := #[.int .u64 0, .int .u64 0]) ?_ 0 _ rfl; (with_reducible repeat (first | refine blk_drewN ?_ _ | refine blk_drew ?_ | refine blk_alloc ?_ _)); exact BK627.out) hb); have n2_ := Aside0.mk (below_step bes hb); clear BK626; clear BK627; clear HB; have BK626 := n0_; have BK627 := n1_; have HB := n2_; clear n0_ n1_ n2_; (try clear hb)))
           go_meet
           case rel => exact ⟨_, (decide (t641 < 0)), (by first | rfl | (simp; done) | (simp [*]; done)), H', ⟨by have := HJ4.out; have := HJ26.out; first | omega | exact Nat.le_refl _⟩, ⟨kb BK626⟩, ⟨kb BK627⟩, ⟨bes⟩⟩
          ·
           rw [if_neg c68] at H
           have c68b0 : ((wrap64 ((wrap64 ((wrap64 (t616 + t618)) - 126)) + t635)) == (wrap64 ((wrap64 (t629 - 126)) + t639))) = false := beq_eq_false_iff_ne.mpr c68
           have c68b1 : ((wrap64 ((wrap64 ((wrap64 (t616 + t618)) - 126)) + t635)) != (wrap64 ((wrap64 (t629 - 126)) + t639))) = true := bne_iff_ne.mpr c68
           have H' := Aside0.mk H
           clear H
           go_wp2
           go_meet
           case rel => exact ⟨_, (false), (by first | rfl | (simp; done) | (simp [*]; done)), H', ⟨by have := HJ4.out; have := HJ26.out; first | omega | exact Nat.le_refl _⟩, ⟨by (with_reducible repeat (first | refine blk_drewN ?_ _ | refine blk_drew ?_ | refine blk_alloc ?_ _)); refine blk_far ?_ NB626_627.out _; (with_reducible repeat (first | refine blk_drewN ?_ _ | refine blk_drew ?_ | refine blk_alloc ?_ _)); refine blk_far ?_ NB626_627.out _; (with_reducible repeat (first | refine blk_drewN ?_ _ | refine blk_drew ?_ | refine blk_alloc ?_ _)); exact BK626.out⟩, ⟨by (with_reducible repeat (first | refine blk_drewN ?_ _ | refine blk_drew ?_ | refine blk_alloc ?_ _)); refine blk_put (cs := #[.int .u64 t637, .int .u64 0]) ?_ 1 _ rfl; (with_reducible repeat (first | refine blk_drewN ?_ _ | refine blk_drew ?_ | refine blk_alloc ?_ _)); refine blk_put (cs := #[.int .u64 0, .int .u64 0]) ?_ 0 _ rfl; (with_reducible repeat (first | refine blk_drewN ?_ _ | refine blk_drew ?_ | refine blk_alloc ?_ _)); exact BK627.out⟩, ⟨bes⟩⟩
        case rest => as_aux_lemma =>
         clear HC51
         try clear c1
         try clear c2
         try clear p2
         try clear c3
         try clear c4
         try clear c5
         try clear c6
         try clear p6
         try clear c7
         try clear c8
         try clear c10
         try clear c12
         try clear c15
         try clear c16
         try clear c18
         try clear c21
         try clear c27
         try clear c28
         try clear c28b0
         try clear c28b1
         try clear c29
         try clear c30
         try clear c31
         try clear c35
         try clear c35b0
         try clear c35b1
         try clear c37
         try clear c38
         try clear c39
         try clear c40
         try clear c41
         try clear c54
         try clear c55
         try clear p64
         try clear c67
         try clear c67b0
         try clear c68
         try clear c68b0
         try clear c68b1
         try clear c70
         try clear hcz41_0
         try clear hcz41_1
         try clear hcz42_0
         try clear hcz42_1
         try clear hcz56_0
         try clear hcz56_1
         try clear hcz57_0
         try clear hcz57_1
         try clear hcz66_0
         try clear hcz66_1
         try clear hcz71_0
         try clear hcz71_1
         try clear hcz72_0
         try clear hcz72_1
         try clear hfz41_0
         try clear hfz41_1
         try clear hfz42_0
         try clear hfz42_1
         try clear hfz56_0
         try clear hfz56_1
         try clear hfz57_0
         try clear hfz57_1
         try clear hfz66_0
         try clear hfz66_1
         try clear hfz71_0
         try clear hfz71_1
         try clear hfz72_0
         try clear hfz72_1
         try clear p2
         obtain ⟨kq, x149_50, rfl, HA, HJ50, BK626, BK627, HB⟩ := hcut
         cases kq with
         | zero => exact absurd HA.out (by simp [more_Fma.j4])
         | succ kj50 =>
          have H := HA.out
          clear HA
          simp only [more_Fma.j4] at H
          have HC74 := Aside0.mk H
          clear H
          go_upto_if 149 with (fail)
          go_cut [13, 16, 20, 21] (fun v13 v16 v20 v21 wc => ∃ (kq : Nat) (x13_73 : Int) (x16_73 : Bool) (x20_73 : Int) (x21_73 : Bool) (x627000_73 : Int) (x627001_73 : Int) (x628000_73 : Int) (x628001_73 : Int), v13 = .int .i64 x13_73 ∧ v16 = .bool x16_73 ∧ v20 = .int .i64 x20_73 ∧ v21 = .bool x21_73 ∧ Aside0 (more_Fma.j5 kq x13_73 x16_73 x20_73 x21_73 x627000_73 x627001_73 x628000_73 x628001_73 = some (r1, r2)) ∧ Aside0 (kq ≤ kj50) ∧ Aside0 (wc.heap[gb626]? = some (.cells #[.int .u64 x627000_73, .int .u64 x627001_73] 55 (0, 0))) ∧ Aside0 (wc.heap[gb627]? = some (.cells #[.int .u64 x628000_73, .int .u64 x628001_73] 55 (0, 0))) ∧ Aside0 (Below w.heap.size w wc))
          case first => as_aux_lemma =>
           have H := HC74.out
           clear HC74
           by_cases c75 : x149_50 = true
           ·
            subst c75
            rw [if_pos rfl] at H
            have H' := Aside0.mk H
            clear H
            have hnb76 := NB627_626.out
            have hnc76 := NB626_627.out
            have hcz77_0 : wc.cell? ⟨gb627, 0, none⟩ = some (.int .u64 t637) := (blk_cell BK627.out 0).trans rfl
            have hcz77_1 : wc.cell? ⟨gb627, 1, none⟩ = some (.int .u64 t638) := (blk_cell BK627.out 1).trans rfl
            have hfz77_0 := blk_frozen BK627.out 0
            have hfz77_1 := blk_frozen BK627.out 1
            have hcz78_0 : wc.cell? ⟨gb626, 0, none⟩ = some (.int .u64 t633) := (blk_cell BK626.out 0).trans rfl
            have hcz78_1 : wc.cell? ⟨gb626, 1, none⟩ = some (.int .u64 t634) := (blk_cell BK626.out 1).trans rfl
            have hfz78_0 := blk_frozen BK626.out 0
            have hfz78_1 := blk_frozen BK626.out 1
            go_wp2
            go_meet
            case rel => exact ⟨_, ((wrap64 ((wrap64 (t629 - 126)) + t639))), (t640), ((wrap64 ((wrap64 ((wrap64 (t616 + t618)) - 126)) + t635))), (x16_26), (t637), (t638), (t633), (t634), (by first | rfl | (simp; done) | (simp [*]; done)), (by first | rfl | (simp; done) | (simp [*]; done)), (by first | rfl | (simp; done) | (simp [*]; done)), (by first | rfl | (simp; done) | (simp [*]; done)), H', ⟨by have := HJ4.out; have := HJ26.out; have := HJ50.out; first | omega | exact Nat.le_refl _⟩, ⟨by (with_reducible repeat (first | refine blk_drewN ?_ _ | refine blk_drew ?_ | refine blk_alloc ?_ _)); refine blk_far ?_ NB626_627.out _; (with_reducible repeat (first | refine blk_drewN ?_ _ | refine blk_drew ?_ | refine blk_alloc ?_ _)); refine blk_far ?_ NB626_627.out _; (with_reducible repeat (first | refine blk_drewN ?_ _ | refine blk_drew ?_ | refine blk_alloc ?_ _)); refine blk_put (cs := #[.int .u64 t637, .int .u64 t634]) ?_ 1 _ rfl; (with_reducible repeat (first | refine blk_drewN ?_ _ | refine blk_drew ?_ | refine blk_alloc ?_ _)); refine blk_put (cs := #[.int .u64 t633, .int .u64 t634]) ?_ 0 _ rfl; (with_reducible repeat (first | refine blk_drewN ?_ _ | refine blk_drew ?_ | refine blk_alloc ?_ _)); exact BK626.out⟩, ⟨by (with_reducible repeat (first | refine blk_drewN ?_ _ | refine blk_drew ?_ | refine blk_alloc ?_ _)); refine blk_put (cs := #[.int .u64 t633, .int .u64 t638]) ?_ 1 _ rfl; (with_reducible repeat (first | refine blk_drewN ?_ _ | refine blk_drew ?_ | refine blk_alloc ?_ _)); refine blk_put (cs := #[.int .u64 t637, .int .u64 t638]) ?_ 0 _ rfl; (with_reducible repeat (first | refine blk_drewN ?_ _ | refine blk_drew ?_ | refine blk_alloc ?_ _)); refine blk_far ?_ NB627_626.out _; (with_reducible repeat (first | refine blk_drewN ?_ _ | refine blk_drew ?_ | refine blk_alloc ?_ _)); refine blk_far ?_ NB627_626.out _; (with_reducible repeat (first | refine blk_drewN ?_ _ | refine blk_drew ?_ | refine blk_alloc ?_ _)); exact BK627.out⟩, ⟨bes⟩⟩
           ·
            replace c75 := Bool.eq_false_iff.mpr c75
            subst c75
            rw [if_neg (show ¬ (false = true) by decide)] at H
            have H' := Aside0.mk H
            clear H
            go_wp2
            go_meet
            case rel => exact ⟨_, ((wrap64 ((wrap64 ((wrap64 (t616 + t618)) - 126)) + t635))), (x16_26), ((wrap64 ((wrap64 (t629 - 126)) + t639))), (t640), (t633), (t634), (t637), (t638), (by first | rfl | (simp; done) | (simp [*]; done)), (by first | rfl | (simp; done) | (simp [*]; done)), (by first | rfl | (simp; done) | (simp [*]; done)), (by first | rfl | (simp; done) | (simp [*]; done)), H', ⟨by have := HJ4.out; have := HJ26.out; have := HJ50.out; first | omega | exact Nat.le_refl _⟩, ⟨kb BK626⟩, ⟨kb BK627⟩, ⟨bes⟩⟩
          case rest => as_aux_lemma =>
           clear HC74
           try clear c1
           try clear c2
           try clear p2
           try clear c3
           try clear c4
           try clear c5
           try clear c6
           try clear p6
           try clear c7
           try clear c8
           try clear c10
           try clear c12
           try clear c15
           try clear c16
           try clear c18
           try clear c21
           try clear c27
           try clear c28
           try clear c28b0
           try clear c28b1
           try clear c29
           try clear c30
           try clear c31
           try clear c35
           try clear c35b0
           try clear c35b1
           try clear c37
           try clear c38
           try clear c39
           try clear c40
           try clear c41
           try clear c54
           try clear c55
           try clear p64
           try clear c67
           try clear c67b0
           try clear c68
           try clear c68b0
           try clear c68b1
           try clear c70
           try clear c75
           try clear c76
           try clear hcz41_0
           try clear hcz41_1
           try clear hcz42_0
           try clear hcz42_1
           try clear hcz56_0
           try clear hcz56_1
           try clear hcz57_0
           try clear hcz57_1
           try clear hcz66_0
           try clear hcz66_1
           try clear hcz71_0
           try clear hcz71_1
           try clear hcz72_0
           try clear hcz72_1
           try clear hcz77_0
           try clear hcz77_1
           try clear hcz78_0
           try clear hcz78_1
           try clear hfz41_0
           try clear hfz41_1
           try clear hfz42_0
           try clear hfz42_1
           try clear hfz56_0
           try clear hfz56_1
           try clear hfz57_0
           try clear hfz57_1
           try clear hfz66_0
           try clear hfz66_1
           try clear hfz71_0
           try clear hfz71_1
           try clear hfz72_0
           try clear hfz72_1
           try clear hfz77_0
           try clear hfz77_1
           try clear hfz78_0
           try clear hfz78_1
           try clear p2
           try clear p6
           try clear p64
           obtain ⟨kq, x13_73, x16_73, x20_73, x21_73, x627000_73, x627001_73, x628000_73, x628001_73, rfl, rfl, rfl, rfl, HA, HJ73, BK626, BK627, HB⟩ := hcut
           cases kq with
           | zero => exact absurd HA.out (by simp [more_Fma.j5])
           | succ kj73 =>
            have H := HA.out
            clear HA
            simp only [more_Fma.j5] at H
            obtain ⟨⟨t642, t643, t644⟩, A790, H⟩ := Option.bind_eq_some_iff.mp H
            (try dsimp -simprocs only at H)
            have A79 := Aside0.mk A790
            clear A790
            by_cases c80 : (x16_73 == x21_73) = true
            ·
             rw [if_pos c80] at H
             have c80b0 : (x16_73 == x21_73) = true := c80
             (try (have c80b1 : decide (x16_73 = x21_73) = true := by simpa using c80))
             (try (have c80b2 : (x16_73 == x21_73) = true := by simpa using c80))
             clear c80
             obtain ⟨⟨t645, t646, t647⟩, A810, H⟩ := Option.bind_eq_some_iff.mp H
             (try dsimp -simprocs only at H)
             have A81 := Aside0.mk A810
             clear A810
             obtain ⟨⟨t649, t650⟩, A820, H⟩ := Option.bind_eq_some_iff.mp H
             (try dsimp -simprocs only at H)
             have A82 := Aside0.mk A820
             clear A820
             simp only [Option.some.injEq, Prod.mk.injEq] at H
             obtain ⟨rfl, rfl⟩ := H
             have hnb83 := NB627_626.out
             have hnc83 := NB626_627.out
             have hcz84_0 : wc.cell? ⟨gb627, 0, none⟩ = some (.int .u64 x628000_73) := (blk_cell BK627.out 0).trans rfl
             have hcz84_1 : wc.cell? ⟨gb627, 1, none⟩ = some (.int .u64 x628001_73) := (blk_cell BK627.out 1).trans rfl
             have hfz84_0 := blk_frozen BK627.out 0
             have hfz84_1 := blk_frozen BK627.out 1
             go_wp2_with (first | ((with_reducible refine gate_callee (f := 50) rfl ?_); refine goesL_ (some 161) rfl rfl Try.func50 (by kernel_rfl) rfl #[.agg #[.int .u64 x628000_73, .int .u64 x628001_73], .int .i64 (wrap64 (x13_73 - x20_73))] rfl ga ?_; (with_reducible refine (wide_Wide_Right.calls kj73 x628000_73 x628001_73 (wrap64 (x13_73 - x20_73)) t642 t643 t644 _ A79.out).mono ?_); rintro e w85 ⟨rfl, hb⟩; refine ⟨_, rfl, ?_⟩; have n0_ := Aside0.mk (blk_below (g := gb626) (o := .cells #[.int .u64 x627000_73, .int .u64 x627001_73] 55 (0, 0)) (kb BK626) hb); have n1_ := Aside0.mk (blk_below (g := gb627) (o := .cells #[.int .u64 x628000_73, .int .u64 x628001_73] 55 (0, 0)) (kb BK627) hb); have n2_ := Aside0.mk (below_step bes hb); clear BK626; clear BK627; clear HB; have BK626 := n0_; have BK627 := n1_; have HB := n2_; clear n0_ n1_ n2_; (try clear hb); have hcz86_0 : w85.cell? ⟨gb627, 0, none⟩ = some (.int .u64 x628000_73) := (blk_cell BK627.out 0).trans rfl; have hcz86_1 : w85.cell? ⟨gb627, 1, none⟩ = some (.int .u64 x628001_73) := (blk_cell BK627.out 1).trans rfl; have hfz86_0 := blk_frozen BK627.out 0; have hfz86_1 := blk_frozen BK627.out 1; have hcz87_0 : w85.cell? ⟨gb626, 0, none⟩ = some (.int .u64 x627000_73) := (blk_cell BK626.out 0).trans rfl; have hcz87_1 : w85.cell? ⟨gb626, 1, none⟩ = some (.int .u64 x627001_73) := (blk_cell BK626.out 1).trans rfl; have hfz87_0 := blk_frozen BK626.out 0; have hfz87_1 := blk_frozen BK626.out 1) | ((with_reducible refine gate_callee (f := 57) rfl ?_); refine goesL_ (some 170) rfl rfl Try.func57 (by kernel_rfl) rfl #[.agg #[.int .u64 x627000_73, .int .u64 x627001_73], .agg #[.int .u64 t642, .int .u64 t643]] rfl ga ?_; (with_reducible refine (wide_Wide_Add.calls x627000_73 x627001_73 t642 t643 t645 t646 t647 _ A81.out).mono ?_); rintro e w88 ⟨rfl, hb⟩; refine ⟨_, rfl, ?_⟩; have n0_ := Aside0.mk (blk_below (g := gb626) (o := .cells #[.int .u64 x627000_73, .int .u64 x627001_73] 55 (0, 0)) (by (with_reducible repeat (first | refine blk_drewN ?_ _ | refine blk_drew ?_ | refine blk_alloc ?_ _)); refine blk_far ?_ NB626_627.out _; (with_reducible repeat (first | refine blk_drewN ?_ _ | refine blk_drew ?_ | refine blk_alloc ?_ _)); refine blk_far ?_ NB626_627.out _; (with_reducible repeat (first | refine blk_drewN ?_ _ | refine blk_drew ?_ | refine blk_alloc ?_ _)); exact BK626.out) hb); have n1_ := Aside0.mk (blk_below (g := gb627) (o := .cells #[.int .u64 t642, .int .u64 t643] 55 (0, 0)) (by (with_reducible repeat (first | refine blk_drewN ?_ _ | refine blk_drew ?_ | refine blk_alloc ?_ _)); refine blk_put (cs := #[.int .u64 t642, .int .u64 x628001_73]) ?_ 1 _ rfl; (with_reducible repeat (first | refine blk_drewN ?_ _ | refine blk_drew ?_ | refine blk_alloc ?_ _)); refine blk_put (cs := #[.int .u64 x628000_73, .int .u64 x628001_73]) ?_ 0 _ rfl; (with_reducible repeat (first | refine blk_drewN ?_ _ | refine blk_drew ?_ | refine blk_alloc ?_ _)); exact BK627.out) hb); have n2_ := Aside0.mk (below_step bes hb); clear BK626; clear BK627; clear HB; have BK626 := n0_; have BK627 := n1_; have HB := n2_; clear n0_ n1_ n2_; (try clear hb)) | ((with_reducible refine gate_dst (N := 23) rfl ?_); refine box_event ?hg (N := 23) ?hd (cs := #[.int .u64 0, .int .u64 0]) (t := 55) ?hr ?_; (case hd => rfl); (case hg => rfl); (case hr => first | (go_simp; done) | (go_simp; rfl)); intro gb648 hg w89 hbox hb; have n0_ := Aside0.mk (blk_below (g := gb626) (o := .cells #[.int .u64 x627000_73, .int .u64 x627001_73] 55 (0, 0)) (kb BK626) hb); have n1_ := Aside0.mk (blk_below (g := gb627) (o := .cells #[.int .u64 t642, .int .u64 t643] 55 (0, 0)) (kb BK627) hb); have n2_ := Aside0.mk (below_step bes hb); have n3_ := Aside0.mk (hbox); have n4_ := Aside0.mk ((by rw [hg]; exact (below_size bes) : w.heap.size ≤ gb648)); have n5_ := Aside0.mk ((by rw [hg]; exact (below_size bes) : w.heap.size ≤ gb648)); have n6_ := Aside0.mk ((by rw [hg]; exact Nat.ne_of_lt (blk_lt (g := gb626) (o := .cells #[.int .u64 x627000_73, .int .u64 x627001_73] 55 (0, 0)) (kb BK626)) : gb626 ≠ gb648)); have n7_ := Aside0.mk ((by rw [hg]; exact Nat.ne_of_gt (blk_lt (g := gb626) (o := .cells #[.int .u64 x627000_73, .int .u64 x627001_73] 55 (0, 0)) (kb BK626)) : gb648 ≠ gb626)); have n8_ := Aside0.mk ((by rw [hg]; exact Nat.ne_of_lt (blk_lt (g := gb627) (o := .cells #[.int .u64 t642, .int .u64 t643] 55 (0, 0)) (kb BK627)) : gb627 ≠ gb648)); have n9_ := Aside0.mk ((by rw [hg]; exact Nat.ne_of_gt (blk_lt (g := gb627) (o := .cells #[.int .u64 t642, .int .u64 t643] 55 (0, 0)) (kb BK627)) : gb648 ≠ gb627)); clear BK626; clear BK627; clear HB; have BK626 := n0_; have BK627 := n1_; have HB := n2_; have BK648 := n3_; have GW648 := n4_; have GE648 := n5_; have NB626_648 := n6_; have NB648_626 := n7_; have NB627_648 := n8_; have NB648_627 := n9_; clear n0_ n1_ n2_ n3_ n4_ n5_ n6_ n7_ n8_ n9_; clear hb hbox hg; have hnb90 := NB648_626.out; have hnc90 := NB626_648.out; have hnb91 := NB648_627.out; have hnc91 := NB627_648.out; have hcz92_0 : w89.cell? ⟨gb648, 0, none⟩ = some (.int .u64 0) := (blk_cell BK648.out 0).trans rfl; have hcz92_1 : w89.cell? ⟨gb648, 1, none⟩ = some (.int .u64 0) := (blk_cell BK648.out 1).trans rfl; have hfz92_0 := blk_frozen BK648.out 0; have hfz92_1 := blk_frozen BK648.out 1) | ((with_reducible refine gate_callee (f := 41) rfl ?_); refine goesL_ (some 177) rfl rfl Try.func41 (by kernel_rfl) rfl #[.bool x16_73, .agg #[.int .u64 t645, .int .u64 t646], .int .i64 x13_73, .bool t644] rfl ga ?_; (with_reducible refine (round_Round.calls kj73 x16_73 t645 t646 x13_73 t644 t649 t650 _ A82.out).mono ?_); rintro e w93 ⟨rfl, hb⟩; refine ⟨_, rfl, ?_⟩; have n0_ := Aside0.mk (blk_below (g := gb626) (o := .cells #[.int .u64 x627000_73, .int .u64 x627001_73] 55 (0, 0)) (by (with_reducible repeat (first | refine blk_drewN ?_ _ | refine blk_drew ?_ | refine blk_alloc ?_ _)); refine blk_far ?_ NB626_648.out _; (with_reducible repeat (first | refine blk_drewN ?_ _ | refine blk_drew ?_ | refine blk_alloc ?_ _)); refine blk_far ?_ NB626_648.out _; (with_reducible repeat (first | refine blk_drewN ?_ _ | refine blk_drew ?_ | refine blk_alloc ?_ _)); exact BK626.out) hb); have n1_ := Aside0.mk (blk_below (g := gb627) (o := .cells #[.int .u64 t642, .int .u64 t643] 55 (0, 0)) (by (with_reducible repeat (first | refine blk_drewN ?_ _ | refine blk_drew ?_ | refine blk_alloc ?_ _)); refine blk_far ?_ NB627_648.out _; (with_reducible repeat (first | refine blk_drewN ?_ _ | refine blk_drew ?_ | refine blk_alloc ?_ _)); refine blk_far ?_ NB627_648.out _; (with_reducible repeat (first | refine blk_drewN ?_ _ | refine blk_drew ?_ | refine blk_alloc ?_ _)); exact BK627.out) hb); have n2_ := Aside0.mk (blk_below (g := gb648) (o := .cells #[.int .u64 t645, .int .u64 t646] 55 (0, 0)) (by (with_reducible repeat (first | refine blk_drewN ?_ _ | refine blk_drew ?_ | refine blk_alloc ?_ _)); refine blk_put (cs := #[.int .u64 t645, .int .u64 0]) ?_ 1 _ rfl; (with_reducible repeat (first | refine blk_drewN ?_ _ | refine blk_drew ?_ | refine blk_alloc ?_ _)); refine blk_put (cs := #[.int .u64 0, .int .u64 0]) ?_ 0 _ rfl; (with_reducible repeat (first | refine blk_drewN ?_ _ | refine blk_drew ?_ | refine blk_alloc ?_ _)); exact BK648.out) hb); have n3_ := Aside0.mk (below_step bes hb); clear BK626; clear BK627; clear BK648; clear HB; have BK626 := n0_; have BK627 := n1_; have BK648 := n2_; have HB := n3_; clear n0_ n1_ n2_ n3_; (try clear hb)))
             go_ret2
             exact ⟨er, bes⟩
            ·
             rw [if_neg c80] at H
             have c80b0 : (x16_73 == x21_73) = false := by simpa using c80
             (try (have c80b1 : decide (x16_73 = x21_73) = false := by simpa using c80))
             (try (have c80b2 : (x16_73 == x21_73) = false := by simpa using c80))
             (try (have c80b3 : ¬ (x16_73 = x21_73) := by simpa using c80))
             clear c80
             have HC94 := Aside0.mk H
             clear H
             have hnb95 := NB627_626.out
             have hnc95 := NB626_627.out
             have hcz96_0 : wc.cell? ⟨gb627, 0, none⟩ = some (.int .u64 x628000_73) := (blk_cell BK627.out 0).trans rfl
             have hcz96_1 : wc.cell? ⟨gb627, 1, none⟩ = some (.int .u64 x628001_73) := (blk_cell BK627.out 1).trans rfl
             have hfz96_0 := blk_frozen BK627.out 0
             have hfz96_1 := blk_frozen BK627.out 1
             go_upto_if 180 with (first | ((with_reducible refine gate_callee (f := 50) rfl ?_); refine goesL_ (some 161) rfl rfl Try.func50 (by kernel_rfl) rfl #[.agg #[.int .u64 x628000_73, .int .u64 x628001_73], .int .i64 (wrap64 (x13_73 - x20_73))] rfl ga ?_; (with_reducible refine (wide_Wide_Right.calls kj73 x628000_73 x628001_73 (wrap64 (x13_73 - x20_73)) t642 t643 t644 _ A79.out).mono ?_); rintro e w97 ⟨rfl, hb⟩; refine ⟨_, rfl, ?_⟩; have n0_ := Aside0.mk (blk_below (g := gb626) (o := .cells #[.int .u64 x627000_73, .int .u64 x627001_73] 55 (0, 0)) (kb BK626) hb); have n1_ := Aside0.mk (blk_below (g := gb627) (o := .cells #[.int .u64 x628000_73, .int .u64 x628001_73] 55 (0, 0)) (kb BK627) hb); have n2_ := Aside0.mk (below_step bes hb); clear BK626; clear BK627; clear HB; have BK626 := n0_; have BK627 := n1_; have HB := n2_; clear n0_ n1_ n2_; (try clear hb); have hcz98_0 : w97.cell? ⟨gb627, 0, none⟩ = some (.int .u64 x628000_73) := (blk_cell BK627.out 0).trans rfl; have hcz98_1 : w97.cell? ⟨gb627, 1, none⟩ = some (.int .u64 x628001_73) := (blk_cell BK627.out 1).trans rfl; have hfz98_0 := blk_frozen BK627.out 0; have hfz98_1 := blk_frozen BK627.out 1))
             (try simp only [Act.put, List.setIfInBounds_toArray, List.set_cons_zero, List.set_cons_succ])
             go_cut [] (fun wc => ∃ (kq : Nat) (x628000_93 : Int) (x628001_93 : Int), Aside0 (more_Fma.j6 kq x13_73 x16_73 t644 x627000_73 x627001_73 x628000_93 x628001_93 = some (r1, r2)) ∧ Aside0 (kq ≤ kj73) ∧ Aside0 (wc.heap[gb626]? = some (.cells #[.int .u64 x627000_73, .int .u64 x627001_73] 55 (0, 0))) ∧ Aside0 (wc.heap[gb627]? = some (.cells #[.int .u64 x628000_93, .int .u64 x628001_93] 55 (0, 0))) ∧ Aside0 (Below w.heap.size w wc))
             case first => as_aux_lemma =>
              have H := HC94.out
              clear HC94
              by_cases c99 : t644 = true
              ·
               subst c99
               rw [if_pos rfl] at H
               obtain ⟨⟨t651, t652, t653⟩, A1000, H⟩ := Option.bind_eq_some_iff.mp H
               (try dsimp -simprocs only at H)
               have A100 := Aside0.mk A1000
               clear A1000
               have H' := Aside0.mk H
               clear H
               have hnb101 := NB627_626.out
               have hnc101 := NB626_627.out
               have hcz102_0 : w97.cell? ⟨gb627, 0, none⟩ = some (.int .u64 x628000_73) := (blk_cell BK627.out 0).trans rfl
               have hcz102_1 : w97.cell? ⟨gb627, 1, none⟩ = some (.int .u64 x628001_73) := (blk_cell BK627.out 1).trans rfl
               have hfz102_0 := blk_frozen BK627.out 0
               have hfz102_1 := blk_frozen BK627.out 1
               go_wp2_with (first | ((with_reducible refine gate_callee (f := 57) rfl ?_); refine goesL_ (some 184) rfl rfl Try.func57 (by kernel_rfl) rfl #[.agg #[.int .u64 t642, .int .u64 t643], .agg #[.int .u64 0, .int .u64 1]] rfl ga ?_; (with_reducible refine (wide_Wide_Add.calls t642 t643 0 1 t651 t652 t653 _ A100.out).mono ?_); rintro e w103 ⟨rfl, hb⟩; refine ⟨_, rfl, ?_⟩; have n0_ := Aside0.mk (blk_below (g := gb626) (o := .cells #[.int .u64 x627000_73, .int .u64 x627001_73] 55 (0, 0)) (by (with_reducible repeat (first | refine blk_drewN ?_ _ | refine blk_drew ?_ | refine blk_alloc ?_ _)); refine blk_far ?_ NB626_627.out _; (with_reducible repeat (first | refine blk_drewN ?_ _ | refine blk_drew ?_ | refine blk_alloc ?_ _)); refine blk_far ?_ NB626_627.out _; (with_reducible repeat (first | refine blk_drewN ?_ _ | refine blk_drew ?_ | refine blk_alloc ?_ _)); exact BK626.out) hb); have n1_ := Aside0.mk (blk_below (g := gb627) (o := .cells #[.int .u64 t642, .int .u64 t643] 55 (0, 0)) (by (with_reducible repeat (first | refine blk_drewN ?_ _ | refine blk_drew ?_ | refine blk_alloc ?_ _)); refine blk_put (cs := #[.int .u64 t642, .int .u64 x628001_73]) ?_ 1 _ rfl; (with_reducible repeat (first | refine blk_drewN ?_ _ | refine blk_drew ?_ | refine blk_alloc ?_ _)); refine blk_put (cs := #[.int .u64 x628000_73, .int .u64 x628001_73]) ?_ 0 _ rfl; (with_reducible repeat (first | refine blk_drewN ?_ _ | refine blk_drew ?_ | refine blk_alloc ?_ _)); exact BK627.out) hb); have n2_ := Aside0.mk (below_step bes hb); clear BK626; clear BK627; clear HB; have BK626 := n0_; have BK627 := n1_; have HB := n2_; clear n0_ n1_ n2_; (try clear hb); have hcz104_0 : w103.cell? ⟨gb627, 0, none⟩ = some (.int .u64 t642) := (blk_cell BK627.out 0).trans rfl; have hcz104_1 : w103.cell? ⟨gb627, 1, none⟩ = some (.int .u64 t643) := (blk_cell BK627.out 1).trans rfl; have hfz104_0 := blk_frozen BK627.out 0; have hfz104_1 := blk_frozen BK627.out 1))
               go_meet
               case rel => exact ⟨_, (t651), (t652), H', ⟨by have := HJ4.out; have := HJ26.out; have := HJ50.out; have := HJ73.out; first | omega | exact Nat.le_refl _⟩, ⟨by (with_reducible repeat (first | refine blk_drewN ?_ _ | refine blk_drew ?_ | refine blk_alloc ?_ _)); refine blk_far ?_ NB626_627.out _; (with_reducible repeat (first | refine blk_drewN ?_ _ | refine blk_drew ?_ | refine blk_alloc ?_ _)); refine blk_far ?_ NB626_627.out _; (with_reducible repeat (first | refine blk_drewN ?_ _ | refine blk_drew ?_ | refine blk_alloc ?_ _)); exact BK626.out⟩, ⟨by (with_reducible repeat (first | refine blk_drewN ?_ _ | refine blk_drew ?_ | refine blk_alloc ?_ _)); refine blk_put (cs := #[.int .u64 t651, .int .u64 t643]) ?_ 1 _ rfl; (with_reducible repeat (first | refine blk_drewN ?_ _ | refine blk_drew ?_ | refine blk_alloc ?_ _)); refine blk_put (cs := #[.int .u64 t642, .int .u64 t643]) ?_ 0 _ rfl; (with_reducible repeat (first | refine blk_drewN ?_ _ | refine blk_drew ?_ | refine blk_alloc ?_ _)); exact BK627.out⟩, ⟨bes⟩⟩
              ·
               replace c99 := Bool.eq_false_iff.mpr c99
               subst c99
               rw [if_neg (show ¬ (false = true) by decide)] at H
               have H' := Aside0.mk H
               clear H
               go_wp2
               go_meet
               case rel => exact ⟨_, (t642), (t643), H', ⟨by have := HJ4.out; have := HJ26.out; have := HJ50.out; have := HJ73.out; first | omega | exact Nat.le_refl _⟩, ⟨by (with_reducible repeat (first | refine blk_drewN ?_ _ | refine blk_drew ?_ | refine blk_alloc ?_ _)); refine blk_far ?_ NB626_627.out _; (with_reducible repeat (first | refine blk_drewN ?_ _ | refine blk_drew ?_ | refine blk_alloc ?_ _)); refine blk_far ?_ NB626_627.out _; (with_reducible repeat (first | refine blk_drewN ?_ _ | refine blk_drew ?_ | refine blk_alloc ?_ _)); exact BK626.out⟩, ⟨by (with_reducible repeat (first | refine blk_drewN ?_ _ | refine blk_drew ?_ | refine blk_alloc ?_ _)); refine blk_put (cs := #[.int .u64 t642, .int .u64 x628001_73]) ?_ 1 _ rfl; (with_reducible repeat (first | refine blk_drewN ?_ _ | refine blk_drew ?_ | refine blk_alloc ?_ _)); refine blk_put (cs := #[.int .u64 x628000_73, .int .u64 x628001_73]) ?_ 0 _ rfl; (with_reducible repeat (first | refine blk_drewN ?_ _ | refine blk_drew ?_ | refine blk_alloc ?_ _)); exact BK627.out⟩, ⟨bes⟩⟩
             case rest => as_aux_lemma =>
              clear HC94
              try clear c1
              try clear c2
              try clear p2
              try clear c3
              try clear c4
              try clear c5
              try clear c6
              try clear p6
              try clear c7
              try clear c8
              try clear c9
              try clear c10
              try clear c12
              try clear c15
              try clear c16
              try clear c18
              try clear c21
              try clear c27
              try clear c28
              try clear c28b0
              try clear c28b1
              try clear c29
              try clear c30
              try clear c31
              try clear c35
              try clear c35b0
              try clear c35b1
              try clear c37
              try clear c38
              try clear c39
              try clear c40
              try clear c41
              try clear c50
              try clear c54
              try clear c55
              try clear c57
              try clear p64
              try clear c67
              try clear c67b0
              try clear c68
              try clear c68b0
              try clear c68b1
              try clear c70
              try clear c75
              try clear c76
              try clear c80
              try clear c80b0
              try clear c80b1
              try clear c80b2
              try clear c83
              try clear c90
              try clear c91
              try clear c95
              try clear c99
              try clear c101
              try clear hcz102_0
              try clear hcz102_1
              try clear hcz104_0
              try clear hcz104_1
              try clear hcz41_0
              try clear hcz41_1
              try clear hcz42_0
              try clear hcz42_1
              try clear hcz56_0
              try clear hcz56_1
              try clear hcz57_0
              try clear hcz57_1
              try clear hcz66_0
              try clear hcz66_1
              try clear hcz71_0
              try clear hcz71_1
              try clear hcz72_0
              try clear hcz72_1
              try clear hcz77_0
              try clear hcz77_1
              try clear hcz78_0
              try clear hcz78_1
              try clear hcz84_0
              try clear hcz84_1
              try clear hcz86_0
              try clear hcz86_1
              try clear hcz87_0
              try clear hcz87_1
              try clear hcz92_0
              try clear hcz92_1
              try clear hcz96_0
              try clear hcz96_1
              try clear hcz98_0
              try clear hcz98_1
              try clear hfz102_0
              try clear hfz102_1
              try clear hfz104_0
              try clear hfz104_1
              try clear hfz41_0
              try clear hfz41_1
              try clear hfz42_0
              try clear hfz42_1
              try clear hfz56_0
              try clear hfz56_1
              try clear hfz57_0
              try clear hfz57_1
              try clear hfz66_0
              try clear hfz66_1
              try clear hfz71_0
              try clear hfz71_1
              try clear hfz72_0
              try clear hfz72_1
              try clear hfz77_0
              try clear hfz77_1
              try clear hfz78_0
              try clear hfz78_1
              try clear hfz84_0
              try clear hfz84_1
              try clear hfz86_0
              try clear hfz86_1
              try clear hfz87_0
              try clear hfz87_1
              try clear hfz92_0
              try clear hfz92_1
              try clear hfz96_0
              try clear hfz96_1
              try clear hfz98_0
              try clear hfz98_1
              try clear p2
              try clear p6
              try clear p64
              obtain ⟨kq, x628000_93, x628001_93, HA, HJ93, BK626, BK627, HB⟩ := hcut
              cases kq with
              | zero => exact absurd HA.out (by simp [more_Fma.j6])
              | succ kj93 =>
               have H := HA.out
               clear HA
               simp only [more_Fma.j6] at H
               obtain ⟨⟨t654, t655, t656⟩, A1050, H⟩ := Option.bind_eq_some_iff.mp H
               (try dsimp -simprocs only at H)
               have A105 := Aside0.mk A1050
               clear A1050
               have HC106 := Aside0.mk H
               clear H
               have hnb107 := NB626_627.out
               have hnc107 := NB627_626.out
               have hcz108_0 : wc.cell? ⟨gb626, 0, none⟩ = some (.int .u64 x627000_73) := (blk_cell BK626.out 0).trans rfl
               have hcz108_1 : wc.cell? ⟨gb626, 1, none⟩ = some (.int .u64 x627001_73) := (blk_cell BK626.out 1).trans rfl
               have hfz108_0 := blk_frozen BK626.out 0
               have hfz108_1 := blk_frozen BK626.out 1
               have hcz109_0 : wc.cell? ⟨gb627, 0, none⟩ = some (.int .u64 x628000_93) := (blk_cell BK627.out 0).trans rfl
               have hcz109_1 : wc.cell? ⟨gb627, 1, none⟩ = some (.int .u64 x628001_93) := (blk_cell BK627.out 1).trans rfl
               have hfz109_0 := blk_frozen BK627.out 0
               have hfz109_1 := blk_frozen BK627.out 1
               go_upto_region 29 with (first | ((with_reducible refine gate_callee (f := 58) rfl ?_); refine goesL_ (some 190) rfl rfl Try.func58 (by kernel_rfl) rfl #[.agg #[.int .u64 x627000_73, .int .u64 x627001_73], .agg #[.int .u64 x628000_93, .int .u64 x628001_93]] rfl ga ?_; (with_reducible refine (wide_Wide_Sub.calls x627000_73 x627001_73 x628000_93 x628001_93 t654 t655 t656 _ A105.out).mono ?_); rintro e w110 ⟨rfl, hb⟩; refine ⟨_, rfl, ?_⟩; have n0_ := Aside0.mk (blk_below (g := gb626) (o := .cells #[.int .u64 x627000_73, .int .u64 x627001_73] 55 (0, 0)) (kb BK626) hb); have n1_ := Aside0.mk (blk_below (g := gb627) (o := .cells #[.int .u64 x628000_93, .int .u64 x628001_93] 55 (0, 0)) (kb BK627) hb); have n2_ := Aside0.mk (below_step bes hb); clear BK626; clear BK627; clear HB; have BK626 := n0_; have BK627 := n1_; have HB := n2_; clear n0_ n1_ n2_; (try clear hb)) | ((with_reducible refine gate_dst (N := 25) rfl ?_); refine box_event ?hg (N := 25) ?hd (cs := #[.int .u64 0, .int .u64 0]) (t := 55) ?hr ?_; (case hd => rfl); (case hg => rfl); (case hr => first | (go_simp; done) | (go_simp; rfl)); intro gb657 hg w111 hbox hb; have n0_ := Aside0.mk (blk_below (g := gb626) (o := .cells #[.int .u64 x627000_73, .int .u64 x627001_73] 55 (0, 0)) (kb BK626) hb); have n1_ := Aside0.mk (blk_below (g := gb627) (o := .cells #[.int .u64 x628000_93, .int .u64 x628001_93] 55 (0, 0)) (kb BK627) hb); have n2_ := Aside0.mk (below_step bes hb); have n3_ := Aside0.mk (hbox); have n4_ := Aside0.mk ((by rw [hg]; exact (below_size bes) : w.heap.size ≤ gb657)); have n5_ := Aside0.mk ((by rw [hg]; exact (below_size bes) : w.heap.size ≤ gb657)); have n6_ := Aside0.mk ((by rw [hg]; exact Nat.ne_of_lt (blk_lt (g := gb626) (o := .cells #[.int .u64 x627000_73, .int .u64 x627001_73] 55 (0, 0)) (kb BK626)) : gb626 ≠ gb657)); have n7_ := Aside0.mk ((by rw [hg]; exact Nat.ne_of_gt (blk_lt (g := gb626) (o := .cells #[.int .u64 x627000_73, .int .u64 x627001_73] 55 (0, 0)) (kb BK626)) : gb657 ≠ gb626)); have n8_ := Aside0.mk ((by rw [hg]; exact Nat.ne_of_lt (blk_lt (g := gb627) (o := .cells #[.int .u64 x628000_93, .int .u64 x628001_93] 55 (0, 0)) (kb BK627)) : gb627 ≠ gb657)); have n9_ := Aside0.mk ((by rw [hg]; exact Nat.ne_of_gt (blk_lt (g := gb627) (o := .cells #[.int .u64 x628000_93, .int .u64 x628001_93] 55 (0, 0)) (kb BK627)) : gb657 ≠ gb627)); clear BK626; clear BK627; clear HB; have BK626 := n0_; have BK627 := n1_; have HB := n2_; have BK657 := n3_; have GW657 := n4_; have GE657 := n5_; have NB626_657 := n6_; have NB657_626 := n7_; have NB627_657 := n8_; have NB657_627 := n9_; clear n0_ n1_ n2_ n3_ n4_ n5_ n6_ n7_ n8_ n9_; clear hb hbox hg; have hnb112 := NB657_626.out; have hnc112 := NB626_657.out; have hnb113 := NB657_627.out; have hnc113 := NB627_657.out; have hcz114_0 : w111.cell? ⟨gb657, 0, none⟩ = some (.int .u64 0) := (blk_cell BK657.out 0).trans rfl; have hcz114_1 : w111.cell? ⟨gb657, 1, none⟩ = some (.int .u64 0) := (blk_cell BK657.out 1).trans rfl; have hfz114_0 := blk_frozen BK657.out 0; have hfz114_1 := blk_frozen BK657.out 1))
               (try simp only [Act.put, List.setIfInBounds_toArray, List.set_cons_zero, List.set_cons_succ])
               go_cut [198] (fun v198 wc => ∃ (kq : Nat) (x198_105 : Bool), v198 = .bool x198_105 ∧ Aside0 (more_Fma.j7 kq x13_73 x16_73 t644 x198_105 t654 t655 = some (r1, r2)) ∧ Aside0 (kq ≤ kj93) ∧ Aside0 (wc.heap[gb626]? = some (.cells #[.int .u64 x627000_73, .int .u64 x627001_73] 55 (0, 0))) ∧ Aside0 (wc.heap[gb627]? = some (.cells #[.int .u64 x628000_93, .int .u64 x628001_93] 55 (0, 0))) ∧ Aside0 (wc.heap[gb657]? = some (.cells #[.int .u64 t654, .int .u64 t655] 55 (0, 0))) ∧ Aside0 (Below w.heap.size w wc))
               case first => as_aux_lemma =>
                have H := HC106.out
                clear HC106
                obtain ⟨t658, A1150, H⟩ := Option.bind_eq_some_iff.mp H
                (try dsimp -simprocs only at H)
                have A115 := Aside0.mk A1150
                clear A1150
                by_cases c116 : t658 = true
                ·
                 subst c116
                 rw [if_pos rfl] at H
                 have H' := Aside0.mk H
                 clear H
                 have hnb117 := NB657_626.out
                 have hnc117 := NB626_657.out
                 have hnb118 := NB657_627.out
                 have hnc118 := NB627_657.out
                 have hcz119_0 : w111.cell? ⟨gb657, 0, none⟩ = some (.int .u64 0) := (blk_cell BK657.out 0).trans rfl
                 have hcz119_1 : w111.cell? ⟨gb657, 1, none⟩ = some (.int .u64 0) := (blk_cell BK657.out 1).trans rfl
                 have hfz119_0 := blk_frozen BK657.out 0
                 have hfz119_1 := blk_frozen BK657.out 1
                 go_wp2_with (first | ((with_reducible refine gate_callee (f := 59) rfl ?_); refine goesL_ (some 194) rfl rfl Try.func59 (by kernel_rfl) rfl #[.agg #[.int .u64 t654, .int .u64 t655]] rfl ga ?_; (with_reducible refine (wide_Wide_Zero.calls t654 t655 true _ A115.out).mono ?_); rintro e w120 ⟨rfl, hb⟩; refine ⟨_, rfl, ?_⟩; have n0_ := Aside0.mk (blk_below (g := gb626) (o := .cells #[.int .u64 x627000_73, .int .u64 x627001_73] 55 (0, 0)) (by (with_reducible repeat (first | refine blk_drewN ?_ _ | refine blk_drew ?_ | refine blk_alloc ?_ _)); refine blk_far ?_ NB626_657.out _; (with_reducible repeat (first | refine blk_drewN ?_ _ | refine blk_drew ?_ | refine blk_alloc ?_ _)); refine blk_far ?_ NB626_657.out _; (with_reducible repeat (first | refine blk_drewN ?_ _ | refine blk_drew ?_ | refine blk_alloc ?_ _)); exact BK626.out) hb); have n1_ := Aside0.mk (blk_below (g := gb627) (o := .cells #[.int .u64 x628000_93, .int .u64 x628001_93] 55 (0, 0)) (by (with_reducible repeat (first | refine blk_drewN ?_ _ | refine blk_drew ?_ | refine blk_alloc ?_ _)); refine blk_far ?_ NB627_657.out _; (with_reducible repeat (first | refine blk_drewN ?_ _ | refine blk_drew ?_ | refine blk_alloc ?_ _)); refine blk_far ?_ NB627_657.out _; (with_reducible repeat (first | refine blk_drewN ?_ _ | refine blk_drew ?_ | refine blk_alloc ?_ _)); exact BK627.out) hb); have n2_ := Aside0.mk (blk_below (g := gb657) (o := .cells #[.int .u64 t654, .int .u64 t655] 55 (0, 0)) (by (with_reducible repeat (first | refine blk_drewN ?_ _ | refine blk_drew ?_ | refine blk_alloc ?_ _)); refine blk_put (cs := #[.int .u64 t654, .int .u64 0]) ?_ 1 _ rfl; (with_reducible repeat (first | refine blk_drewN ?_ _ | refine blk_drew ?_ | refine blk_alloc ?_ _)); refine blk_put (cs := #[.int .u64 0, .int .u64 0]) ?_ 0 _ rfl; (with_reducible repeat (first | refine blk_drewN ?_ _ | refine blk_drew ?_ | refine blk_alloc ?_ _)); exact BK657.out) hb); have n3_ := Aside0.mk (below_step bes hb); clear BK626; clear BK627; clear BK657; clear HB; have BK626 := n0_; have BK627 := n1_; have BK657 := n2_; have HB := n3_; clear n0_ n1_ n2_ n3_; (try clear hb)))
                 go_meet
                 case rel => exact ⟨_, (!t644), (by first | rfl | (simp; done) | (simp [*]; done)), H', ⟨by have := HJ4.out; have := HJ26.out; have := HJ50.out; have := HJ73.out; have := HJ93.out; first | omega | exact Nat.le_refl _⟩, ⟨kb BK626⟩, ⟨kb BK627⟩, ⟨kb BK657⟩, ⟨bes⟩⟩
                ·
                 replace c116 := Bool.eq_false_iff.mpr c116
                 subst c116
                 rw [if_neg (show ¬ (false = true) by decide)] at H
                 have H' := Aside0.mk H
                 clear H
                 have hnb121 := NB657_626.out
                 have hnc121 := NB626_657.out
                 have hnb122 := NB657_627.out
                 have hnc122 := NB627_657.out
                 have hcz123_0 : w111.cell? ⟨gb657, 0, none⟩ = some (.int .u64 0) := (blk_cell BK657.out 0).trans rfl
                 have hcz123_1 : w111.cell? ⟨gb657, 1, none⟩ = some (.int .u64 0) := (blk_cell BK657.out 1).trans rfl
                 have hfz123_0 := blk_frozen BK657.out 0
                 have hfz123_1 := blk_frozen BK657.out 1
                 go_wp2_with (first | ((with_reducible refine gate_callee (f := 59) rfl ?_); refine goesL_ (some 194) rfl rfl Try.func59 (by kernel_rfl) rfl #[.agg #[.int .u64 t654, .int .u64 t655]] rfl ga ?_; (with_reducible refine (wide_Wide_Zero.calls t654 t655 false _ A115.out).mono ?_); rintro e w124 ⟨rfl, hb⟩; refine ⟨_, rfl, ?_⟩; have n0_ := Aside0.mk (blk_below (g := gb626) (o := .cells #[.int .u64 x627000_73, .int .u64 x627001_73] 55 (0, 0)) (by (with_reducible repeat (first | refine blk_drewN ?_ _ | refine blk_drew ?_ | refine blk_alloc ?_ _)); refine blk_far ?_ NB626_657.out _; (with_reducible repeat (first | refine blk_drewN ?_ _ | refine blk_drew ?_ | refine blk_alloc ?_ _)); refine blk_far ?_ NB626_657.out _; (with_reducible repeat (first | refine blk_drewN ?_ _ | refine blk_drew ?_ | refine blk_alloc ?_ _)); exact BK626.out) hb); have n1_ := Aside0.mk (blk_below (g := gb627) (o := .cells #[.int .u64 x628000_93, .int .u64 x628001_93] 55 (0, 0)) (by (with_reducible repeat (first | refine blk_drewN ?_ _ | refine blk_drew ?_ | refine blk_alloc ?_ _)); refine blk_far ?_ NB627_657.out _; (with_reducible repeat (first | refine blk_drewN ?_ _ | refine blk_drew ?_ | refine blk_alloc ?_ _)); refine blk_far ?_ NB627_657.out _; (with_reducible repeat (first | refine blk_drewN ?_ _ | refine blk_drew ?_ | refine blk_alloc ?_ _)); exact BK627.out) hb); have n2_ := Aside0.mk (blk_below (g := gb657) (o := .cells #[.int .u64 t654, .int .u64 t655] 55 (0, 0)) (by (with_reducible repeat (first | refine blk_drewN ?_ _ | refine blk_drew ?_ | refine blk_alloc ?_ _)); refine blk_put (cs := #[.int .u64 t654, .int .u64 0]) ?_ 1 _ rfl; (with_reducible repeat (first | refine blk_drewN ?_ _ | refine blk_drew ?_ | refine blk_alloc ?_ _)); refine blk_put (cs := #[.int .u64 0, .int .u64 0]) ?_ 0 _ rfl; (with_reducible repeat (first | refine blk_drewN ?_ _ | refine blk_drew ?_ | refine blk_alloc ?_ _)); exact BK657.out) hb); have n3_ := Aside0.mk (below_step bes hb); clear BK626; clear BK627; clear BK657; clear HB; have BK626 := n0_; have BK627 := n1_; have BK657 := n2_; have HB := n3_; clear n0_ n1_ n2_ n3_; (try clear hb)))
                 go_meet
                 case rel => exact ⟨_, (false), (by first | rfl | (simp; done) | (simp [*]; done)), H', ⟨by have := HJ4.out; have := HJ26.out; have := HJ50.out; have := HJ73.out; have := HJ93.out; first | omega | exact Nat.le_refl _⟩, ⟨kb BK626⟩, ⟨kb BK627⟩, ⟨kb BK657⟩, ⟨bes⟩⟩
               case rest => as_aux_lemma =>
                clear HC106
                try clear c1
                try clear c2
                try clear p2
                try clear c3
                try clear c4
                try clear c5
                try clear c6
                try clear p6
                try clear c7
                try clear c8
                try clear c9
                try clear c10
                try clear c11
                try clear c12
                try clear c15
                try clear c16
                try clear c18
                try clear c21
                try clear c27
                try clear c28
                try clear c28b0
                try clear c28b1
                try clear c29
                try clear c30
                try clear c31
                try clear c35
                try clear c35b0
                try clear c35b1
                try clear c37
                try clear c38
                try clear c39
                try clear c40
                try clear c41
                try clear c50
                try clear c54
                try clear c55
                try clear c57
                try clear c58
                try clear c59
                try clear p64
                try clear c67
                try clear c67b0
                try clear c68
                try clear c68b0
                try clear c68b1
                try clear c70
                try clear c75
                try clear c76
                try clear c80
                try clear c80b0
                try clear c80b1
                try clear c80b2
                try clear c83
                try clear c90
                try clear c91
                try clear c95
                try clear c99
                try clear c101
                try clear c107
                try clear c112
                try clear c113
                try clear c116
                try clear c117
                try clear c118
                try clear c121
                try clear c122
                try clear hcz102_0
                try clear hcz102_1
                try clear hcz104_0
                try clear hcz104_1
                try clear hcz108_0
                try clear hcz108_1
                try clear hcz109_0
                try clear hcz109_1
                try clear hcz114_0
                try clear hcz114_1
                try clear hcz119_0
                try clear hcz119_1
                try clear hcz123_0
                try clear hcz123_1
                try clear hcz41_0
                try clear hcz41_1
                try clear hcz42_0
                try clear hcz42_1
                try clear hcz56_0
                try clear hcz56_1
                try clear hcz57_0
                try clear hcz57_1
                try clear hcz66_0
                try clear hcz66_1
                try clear hcz71_0
                try clear hcz71_1
                try clear hcz72_0
                try clear hcz72_1
                try clear hcz77_0
                try clear hcz77_1
                try clear hcz78_0
                try clear hcz78_1
                try clear hcz84_0
                try clear hcz84_1
                try clear hcz86_0
                try clear hcz86_1
                try clear hcz87_0
                try clear hcz87_1
                try clear hcz92_0
                try clear hcz92_1
                try clear hcz96_0
                try clear hcz96_1
                try clear hcz98_0
                try clear hcz98_1
                try clear hfz102_0
                try clear hfz102_1
                try clear hfz104_0
                try clear hfz104_1
                try clear hfz108_0
                try clear hfz108_1
                try clear hfz109_0
                try clear hfz109_1
                try clear hfz114_0
                try clear hfz114_1
                try clear hfz119_0
                try clear hfz119_1
                try clear hfz123_0
                try clear hfz123_1
                try clear hfz41_0
                try clear hfz41_1
                try clear hfz42_0
                try clear hfz42_1
                try clear hfz56_0
                try clear hfz56_1
                try clear hfz57_0
                try clear hfz57_1
                try clear hfz66_0
                try clear hfz66_1
                try clear hfz71_0
                try clear hfz71_1
                try clear hfz72_0
                try clear hfz72_1
                try clear hfz77_0
                try clear hfz77_1
                try clear hfz78_0
                try clear hfz78_1
                try clear hfz84_0
                try clear hfz84_1
                try clear hfz86_0
                try clear hfz86_1
                try clear hfz87_0
                try clear hfz87_1
                try clear hfz92_0
                try clear hfz92_1
                try clear hfz96_0
                try clear hfz96_1
                try clear hfz98_0
                try clear hfz98_1
                try clear p2
                try clear p6
                try clear p64
                obtain ⟨kq, x198_105, rfl, HA, HJ105, BK626, BK627, BK657, HB⟩ := hcut
                cases kq with
                | zero => exact absurd HA.out (by simp [more_Fma.j7])
                | succ kj105 =>
                 have H := HA.out
                 clear HA
                 simp only [more_Fma.j7] at H
                 by_cases c125 : x198_105 = true
                 ·
                  subst c125
                  rw [if_pos rfl] at H
                  simp only [Option.some.injEq, Prod.mk.injEq] at H
                  obtain ⟨rfl, rfl⟩ := H
                  go_wp2
                  go_ret2
                  exact ⟨er, bes⟩
                 ·
                  replace c125 := Bool.eq_false_iff.mpr c125
                  subst c125
                  rw [if_neg (show ¬ (false = true) by decide)] at H
                  obtain ⟨⟨t659, t660⟩, A1260, H⟩ := Option.bind_eq_some_iff.mp H
                  (try dsimp -simprocs only at H)
                  have A126 := Aside0.mk A1260
                  clear A1260
                  simp only [Option.some.injEq, Prod.mk.injEq] at H
                  obtain ⟨rfl, rfl⟩ := H
                  have hnb127 := NB657_626.out
                  have hnc127 := NB626_657.out
                  have hnb128 := NB657_627.out
                  have hnc128 := NB627_657.out
                  have hcz129_0 : wc.cell? ⟨gb657, 0, none⟩ = some (.int .u64 t654) := (blk_cell BK657.out 0).trans rfl
                  have hcz129_1 : wc.cell? ⟨gb657, 1, none⟩ = some (.int .u64 t655) := (blk_cell BK657.out 1).trans rfl
                  have hfz129_0 := blk_frozen BK657.out 0
                  have hfz129_1 := blk_frozen BK657.out 1
                  go_wp2_with (first | ((with_reducible refine gate_callee (f := 41) rfl ?_); refine goesL_ (some 203) rfl rfl Try.func41 (by kernel_rfl) rfl #[.bool x16_73, .agg #[.int .u64 t654, .int .u64 t655], .int .i64 x13_73, .bool t644] rfl ga ?_; (with_reducible refine (round_Round.calls kj105 x16_73 t654 t655 x13_73 t644 t659 t660 _ A126.out).mono ?_); rintro e w130 ⟨rfl, hb⟩; refine ⟨_, rfl, ?_⟩; have n0_ := Aside0.mk (blk_below (g := gb626) (o := .cells #[.int .u64 x627000_73, .int .u64 x627001_73] 55 (0, 0)) (kb BK626) hb); have n1_ := Aside0.mk (blk_below (g := gb627) (o := .cells #[.int .u64 x628000_93, .int .u64 x628001_93] 55 (0, 0)) (kb BK627) hb); have n2_ := Aside0.mk (blk_below (g := gb657) (o := .cells #[.int .u64 t654, .int .u64 t655] 55 (0, 0)) (kb BK657) hb); have n3_ := Aside0.mk (below_step bes hb); clear BK626; clear BK627; clear BK657; clear HB; have BK626 := n0_; have BK627 := n1_; have BK657 := n2_; have HB := n3_; clear n0_ n1_ n2_ n3_; (try clear hb)))
                  go_ret2
                  exact ⟨er, bes⟩

end Go.Proofs.Ytcappkphcjgeoaa.F
