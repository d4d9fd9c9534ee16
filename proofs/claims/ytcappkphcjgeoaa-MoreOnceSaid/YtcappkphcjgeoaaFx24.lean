-- Written by a program of this seat's session (mkprint), out of the translation.
import Derived.Test.YtcappkphcjgeoaaShort
import Derived.Test.YtcappkphcjgeoaaFx0
import Derived.Test.YtcappkphcjgeoaaFx2
import Derived.Test.YtcappkphcjgeoaaFx3
import Derived.Test.YtcappkphcjgeoaaFx5
import Derived.Test.YtcappkphcjgeoaaFx8
import Derived.Test.YtcappkphcjgeoaaFx12
import Derived.Test.YtcappkphcjgeoaaFx15
import Derived.Test.YtcappkphcjgeoaaFx16
namespace Go.Proofs.Ytcappkphcjgeoaa.F
open Go.RowKit Go.Proofs.YtcappkphcjgeoaaW.PrintWords Go.Proofs.YtcappkphcjgeoaaW.PrintLast Go.Proofs.YtcappkphcjgeoaaW.PrintMore
attribute [local go_sem] max2_int min2_int max_two min_two max_three min_three max_four min_four   -- for this text's walks alone
set_option linter.unusedVariables false
set_option linter.unusedSimpArgs false

/-! ### word_Flip: function 34 -/
def word_Flip.f (a0 : Int) : Option (Int) := some (Go.bits .xor .u64 a0 9223372036854775808)
set_option maxHeartbeats 8000000 in
set_option maxRecDepth 100000 in
theorem word_Flip.calls (a0 : Int) (r : Int) (w : World) (h : word_Flip.f a0 = some r) :
  Calls Try.prog 34 #[.int .u64 a0] w fun e w' => e = .returned (.int .u64 r) ∧ Drawn0 w w' := by
 have H : (some (Go.bits .xor .u64 a0 9223372036854775808)) = some r := h
 clear h
 obtain rfl := Option.some.inj H
 go_enter Try.func34, Try.ntmps34
 go_wp2
 go_ret
 exact ⟨by first | rfl | (simp; done) | (simp [*]; done), by repeat (first | exact Drawn0.refl _ | apply Drawn0.step)⟩

/-! ### word_Next: function 35 -/
def word_Next.j0 : Nat → Int → Bool → Option (Int)
 | 0, _, _ => none
 | k + 1, x0, x3 => if x3 = true then (some x0) else (if x0 = 9223372036854775808 then (some 1) else ((word_Neg.f x0).bind fun t762 => (if t762 = true then (some (IntKind.u64.wrap (x0 - 1))) else (some (IntKind.u64.wrap (x0 + 1))))))
def word_Next.f (k : Nat) (a0 : Int) : Option (Int) := (word_Kind.f k a0).bind fun t761 => (if t761 = 5 then (word_Next.j0 k a0 true) else (word_Next.j0 k a0 (a0 == 9218868437227405312)))
theorem word_Next.mono_l : ∀ k, (∀ y0 y1, LeO (word_Next.j0 k y0 y1) (word_Next.j0 (k + 1) y0 y1))
 | 0 => fun _ _ r h => by simp [word_Next.j0] at h
 | k + 1 => by
  have ih0 := word_Next.mono_l k
  ·
   intro y0 y1
   unfold word_Next.j0
   repeat' first
   | (with_reducible exact ih0 _ _)
   | (with_reducible exact word_Kind.mono _ _)
   | (with_reducible exact LeO.refl _)
   | (with_reducible exact LeO.none _)
   | (with_reducible refine LeO.ite ?_ ?_)
   | (with_reducible refine LeO.bind ?_ (fun _ => ?_))
   | exact ih0 _ _
   | exact word_Kind.mono _ _
   | exact LeO.none _
   | refine LeO.ite ?_ ?_
   | refine LeO.bind ?_ (fun _ => ?_)
theorem word_Next.mono : ∀ a0 k, LeO (word_Next.f k a0) (word_Next.f (k + 1) a0) := by
 intro a0 k
 have ih0 := word_Next.mono_l k
 unfold word_Next.f
 repeat' first
   | (with_reducible exact ih0 _ _)
   | (with_reducible exact word_Kind.mono _ _)
   | (with_reducible exact LeO.refl _)
   | (with_reducible exact LeO.none _)
   | (with_reducible refine LeO.ite ?_ ?_)
   | (with_reducible refine LeO.bind ?_ (fun _ => ?_))
   | exact ih0 _ _
   | exact word_Kind.mono _ _
   | exact LeO.none _
   | refine LeO.ite ?_ ?_
   | refine LeO.bind ?_ (fun _ => ?_)
set_option maxHeartbeats 8000000 in
set_option maxRecDepth 100000 in
theorem word_Next.calls (k : Nat) (a0 : Int) (r : Int) (w : World) (h : word_Next.f k a0 = some r) :
  Calls Try.prog 35 #[.int .u64 a0] w fun e w' => e = .returned (.int .u64 r) ∧ Drawn0 w w' := by
 have H : ((word_Kind.f k a0).bind fun t761 => (if t761 = 5 then (word_Next.j0 k a0 true) else (word_Next.j0 k a0 (a0 == 9218868437227405312)))) = some r := h
 clear h
 have HC2 := Aside0.mk H
 clear H
 go_enter Try.func35, Try.ntmps35
 go_upto_region 1 with (fail)
 go_cut [3] (fun v3 wc => ∃ (kq : Nat) (x3_1 : Bool), v3 = .bool x3_1 ∧ Aside0 (word_Next.j0 kq a0 x3_1 = some r) ∧ Aside0 (kq ≤ k) ∧ Drawn0 w wc)
 case first =>
  have H := HC2.out
  clear HC2
  obtain ⟨t761, A30, H⟩ := Option.bind_eq_some_iff.mp H
  (try dsimp -simprocs only at H)
  have A3 := Aside0.mk A30
  clear A30
  by_cases c4 : t761 = 5
  ·
   rw [if_pos c4] at H
   have c4b0 : (t761 == 5) = true := beq_iff_eq.mpr c4
   have c4b1 : (t761 != 5) = false := bne_eq_false_iff_eq.mpr c4
   clear c4
   (first | rw [c4b0] | (simp only [i64_w, i32_w]; rw [c4b0]) | skip)
   have H' := Aside0.mk H
   clear H
   go_wp2_with (first | ((with_reducible refine gate_callee (f := 26) rfl ?_); refine goesL_ (some 5) rfl rfl Try.func26 (by kernel_rfl) rfl #[.int .u64 a0] rfl ga ?_; (with_reducible refine (word_Kind.calls k a0 t761 _ A3.out).mono ?_); rintro e w' ⟨rfl, ⟨nd, rfl⟩⟩; refine ⟨_, rfl, ?_⟩))
   go_meet
   case rel => exact ⟨_, (true), (by first | rfl | (simp; done) | (simp [*]; done)), H', ⟨by first | omega | exact Nat.le_refl _⟩, by repeat (first | exact Drawn0.refl _ | apply Drawn0.step)⟩
  ·
   rw [if_neg c4] at H
   have c4b0 : (t761 == 5) = false := beq_eq_false_iff_ne.mpr c4
   have c4b1 : (t761 != 5) = true := bne_iff_ne.mpr c4
   (first | rw [c4b0] | (simp only [i64_w, i32_w]; rw [c4b0]) | skip)
   have H' := Aside0.mk H
   clear H
   go_wp2_with (first | ((with_reducible refine gate_callee (f := 26) rfl ?_); refine goesL_ (some 5) rfl rfl Try.func26 (by kernel_rfl) rfl #[.int .u64 a0] rfl ga ?_; (with_reducible refine (word_Kind.calls k a0 t761 _ A3.out).mono ?_); rintro e w' ⟨rfl, ⟨nd, rfl⟩⟩; refine ⟨_, rfl, ?_⟩))
   go_meet
   case rel => exact ⟨_, ((a0 == 9218868437227405312)), (by first | rfl | (simp; done) | (simp [*]; done)), H', ⟨by first | omega | exact Nat.le_refl _⟩, by repeat (first | exact Drawn0.refl _ | apply Drawn0.step)⟩
 case rest =>
  clear HC2
  try clear c2
  try clear p2
  try clear c3
  try clear c4
  try clear c4b0
  try clear c4b1
  obtain ⟨kq, x3_1, rfl, HA, HJ1, ⟨mc1, rfl⟩⟩ := hcut
  cases kq with
  | zero => exact absurd HA.out (by simp [word_Next.j0])
  | succ kj1 =>
   have H := HA.out
   clear HA
   simp only [word_Next.j0] at H
   by_cases c5 : x3_1 = true
   ·
    subst c5
    rw [if_pos rfl] at H
    obtain rfl := Option.some.inj H
    go_wp2
    go_ret
    exact ⟨by first | rfl | (simp; done) | (simp [*]; done), by repeat (first | exact Drawn0.refl _ | apply Drawn0.step)⟩
   ·
    replace c5 := Bool.eq_false_iff.mpr c5
    subst c5
    rw [if_neg (show ¬ (false = true) by decide)] at H
    by_cases c6 : a0 = 9223372036854775808
    ·
     rw [if_pos c6] at H
     have c6b0 : (a0 == 9223372036854775808) = true := beq_iff_eq.mpr c6
     have c6b1 : (a0 != 9223372036854775808) = false := bne_eq_false_iff_eq.mpr c6
     clear c6
     obtain rfl := Option.some.inj H
     go_wp2
     go_ret
     exact ⟨by first | rfl | (simp; done) | (simp [*]; done), by repeat (first | exact Drawn0.refl _ | apply Drawn0.step)⟩
    ·
     rw [if_neg c6] at H
     have c6b0 : (a0 == 9223372036854775808) = false := beq_eq_false_iff_ne.mpr c6
     have c6b1 : (a0 != 9223372036854775808) = true := bne_iff_ne.mpr c6
     obtain ⟨t762, A70, H⟩ := Option.bind_eq_some_iff.mp H
     (try dsimp -simprocs only at H)
     have A7 := Aside0.mk A70
     clear A70
     by_cases c8 : t762 = true
     ·
      subst c8
      rw [if_pos rfl] at H
      obtain rfl := Option.some.inj H
      go_wp2_with (first | ((with_reducible refine gate_callee (f := 21) rfl ?_); refine goesL_ (some 17) rfl rfl Try.func21 (by kernel_rfl) rfl #[.int .u64 a0] rfl ga ?_; (with_reducible refine (word_Neg.calls a0 true _ A7.out).mono ?_); rintro e w' ⟨rfl, ⟨nd, rfl⟩⟩; refine ⟨_, rfl, ?_⟩))
      go_ret
      exact ⟨by first | rfl | (simp; done) | (simp [*]; done), by repeat (first | exact Drawn0.refl _ | apply Drawn0.step)⟩
     ·
      replace c8 := Bool.eq_false_iff.mpr c8
      subst c8
      rw [if_neg (show ¬ (false = true) by decide)] at H
      obtain rfl := Option.some.inj H
      go_wp2_with (first | ((with_reducible refine gate_callee (f := 21) rfl ?_); refine goesL_ (some 17) rfl rfl Try.func21 (by kernel_rfl) rfl #[.int .u64 a0] rfl ga ?_; (with_reducible refine (word_Neg.calls a0 false _ A7.out).mono ?_); rintro e w' ⟨rfl, ⟨nd, rfl⟩⟩; refine ⟨_, rfl, ?_⟩))
      go_ret
      exact ⟨by first | rfl | (simp; done) | (simp [*]; done), by repeat (first | exact Drawn0.refl _ | apply Drawn0.step)⟩

/-! ### word_Prev: function 33 -/
def word_Prev.f (k : Nat) (a0 : Int) : Option (Int) := (word_Kind.f k a0).bind fun t763 => (if t763 = 5 then (some a0) else ((word_Flip.f a0).bind fun t764 => ((word_Next.f k t764).bind fun t765 => ((word_Flip.f t765).bind fun t766 => (some t766)))))
theorem word_Prev.mono : ∀ a0 k, LeO (word_Prev.f k a0) (word_Prev.f (k + 1) a0) := by
 intro a0 k
 unfold word_Prev.f
 repeat' first
   | (with_reducible exact word_Kind.mono _ _)
   | (with_reducible exact word_Next.mono _ _)
   | (with_reducible exact LeO.refl _)
   | (with_reducible exact LeO.none _)
   | (with_reducible refine LeO.ite ?_ ?_)
   | (with_reducible refine LeO.bind ?_ (fun _ => ?_))
   | exact word_Kind.mono _ _
   | exact word_Next.mono _ _
   | exact LeO.none _
   | refine LeO.ite ?_ ?_
   | refine LeO.bind ?_ (fun _ => ?_)
set_option maxHeartbeats 8000000 in
set_option maxRecDepth 100000 in
theorem word_Prev.calls (k : Nat) (a0 : Int) (r : Int) (w : World) (h : word_Prev.f k a0 = some r) :
  Calls Try.prog 33 #[.int .u64 a0] w fun e w' => e = .returned (.int .u64 r) ∧ Drawn0 w w' := by
 have H : ((word_Kind.f k a0).bind fun t763 => (if t763 = 5 then (some a0) else ((word_Flip.f a0).bind fun t764 => ((word_Next.f k t764).bind fun t765 => ((word_Flip.f t765).bind fun t766 => (some t766)))))) = some r := h
 clear h
 obtain ⟨t763, A20, H⟩ := Option.bind_eq_some_iff.mp H
 (try dsimp -simprocs only at H)
 have A2 := Aside0.mk A20
 clear A20
 by_cases c3 : t763 = 5
 ·
  rw [if_pos c3] at H
  have c3b0 : (t763 == 5) = true := beq_iff_eq.mpr c3
  have c3b1 : (t763 != 5) = false := bne_eq_false_iff_eq.mpr c3
  clear c3
  obtain rfl := Option.some.inj H
  go_enter Try.func33, Try.ntmps33
  go_wp2_with (first | ((with_reducible refine gate_callee (f := 26) rfl ?_); refine goesL_ (some 4) rfl rfl Try.func26 (by kernel_rfl) rfl #[.int .u64 a0] rfl ga ?_; (with_reducible refine (word_Kind.calls k a0 t763 _ A2.out).mono ?_); rintro e w' ⟨rfl, ⟨nd, rfl⟩⟩; refine ⟨_, rfl, ?_⟩))
  go_ret
  exact ⟨by first | rfl | (simp; done) | (simp [*]; done), by repeat (first | exact Drawn0.refl _ | apply Drawn0.step)⟩
 ·
  rw [if_neg c3] at H
  have c3b0 : (t763 == 5) = false := beq_eq_false_iff_ne.mpr c3
  have c3b1 : (t763 != 5) = true := bne_iff_ne.mpr c3
  obtain ⟨t764, A40, H⟩ := Option.bind_eq_some_iff.mp H
  (try dsimp -simprocs only at H)
  have A4 := Aside0.mk A40
  clear A40
  obtain ⟨t765, A50, H⟩ := Option.bind_eq_some_iff.mp H
  (try dsimp -simprocs only at H)
  have A5 := Aside0.mk A50
  clear A50
  obtain ⟨t766, A60, H⟩ := Option.bind_eq_some_iff.mp H
  (try dsimp -simprocs only at H)
  have A6 := Aside0.mk A60
  clear A60
  obtain rfl := Option.some.inj H
  go_enter Try.func33, Try.ntmps33
  go_wp2_with (first | ((with_reducible refine gate_callee (f := 26) rfl ?_); refine goesL_ (some 4) rfl rfl Try.func26 (by kernel_rfl) rfl #[.int .u64 a0] rfl ga ?_; (with_reducible refine (word_Kind.calls k a0 t763 _ A2.out).mono ?_); rintro e w' ⟨rfl, ⟨nd, rfl⟩⟩; refine ⟨_, rfl, ?_⟩) | ((with_reducible refine gate_callee (f := 34) rfl ?_); refine goesL_ (some 8) rfl rfl Try.func34 (by kernel_rfl) rfl #[.int .u64 a0] rfl ga ?_; (with_reducible refine (word_Flip.calls a0 t764 _ A4.out).mono ?_); rintro e w' ⟨rfl, ⟨nd, rfl⟩⟩; refine ⟨_, rfl, ?_⟩) | ((with_reducible refine gate_callee (f := 35) rfl ?_); refine goesL_ (some 9) rfl rfl Try.func35 (by kernel_rfl) rfl #[.int .u64 t764] rfl ga ?_; (with_reducible refine (word_Next.calls k t764 t765 _ A5.out).mono ?_); rintro e w' ⟨rfl, ⟨nd, rfl⟩⟩; refine ⟨_, rfl, ?_⟩) | ((with_reducible refine gate_callee (f := 34) rfl ?_); refine goesL_ (some 10) rfl rfl Try.func34 (by kernel_rfl) rfl #[.int .u64 t765] rfl ga ?_; (with_reducible refine (word_Flip.calls t765 t766 _ A6.out).mono ?_); rintro e w' ⟨rfl, ⟨nd, rfl⟩⟩; refine ⟨_, rfl, ?_⟩))
  go_ret
  exact ⟨by first | rfl | (simp; done) | (simp [*]; done), by repeat (first | exact Drawn0.refl _ | apply Drawn0.step)⟩

/-! ### gimballaw05_MoreOnce: function 9 -/
mutual
def gimballaw05_MoreOnce.j0 : Nat → Int → Int → Int → Int → Int → Bool → Option (Bool)
 | 0, _, _, _, _, _, _ => none
 | k + 1, x0, x10, x11, x12, x13, x60 => if x60 = true then (some false) else (if x10 = x12 then (gimballaw05_MoreOnce.j1 k x0 (x11 != x13)) else (gimballaw05_MoreOnce.j1 k x0 true))
def gimballaw05_MoreOnce.j1 : Nat → Int → Bool → Option (Bool)
 | 0, _, _ => none
 | k + 1, x0, x68 => if x68 = true then (some false) else ((word_Neg.f x0).bind fun t779 => (if t779 = true then (gimballaw05_MoreOnce.j2 k x0 true) else ((word_Finite.f x0).bind fun t780 => (if t780 = true then ((word_Exp.f x0).bind fun t781 => (gimballaw05_MoreOnce.j2 k x0 (decide (t781 < 100)))) else (gimballaw05_MoreOnce.j2 k x0 true)))))
def gimballaw05_MoreOnce.j2 : Nat → Int → Bool → Option (Bool)
 | 0, _, _ => none
 | k + 1, x0, x80 => if x80 = true then (some true) else ((more_Sqrt.f k x0).bind fun bt782 => ((word_Prev.f k bt782.1).bind fun t784 => ((word_Prev.f k bt782.1).bind fun t785 => ((word_Flip.f x0).bind fun t786 => ((more_Fma.f k t784 t785 t786).bind fun bt787 => ((word_Next.f k bt782.1).bind fun t789 => ((word_Next.f k bt782.1).bind fun t790 => ((word_Flip.f x0).bind fun t791 => ((more_Fma.f k t789 t790 t791).bind fun bt792 => ((word_Neg.f bt787.1).bind fun t794 => (if t794 = true then ((word_Neg.f bt792.1).bind fun t795 => (if t795 = true then (some false) else ((word_Abs.f bt792.1).bind fun t796 => (some (t796 != 0))))) else (some false))))))))))))
end
def gimballaw05_MoreOnce.f (k : Nat) (a0 : Int) (a1 : Int) : Option (Bool) := (gimballaw05_head.f k).bind fun t767 => (if t767 = true then ((more_Fma.f k a0 4607182418800017408 a1).bind fun bt768 => ((soft_Add.f k a0 a1).bind fun bt770 => ((word_Neg.f a0).bind fun t772 => ((word_Neg.f a1).bind fun t773 => ((word_Make.f (t772 != t773) 0 0).bind fun t774 => ((more_Fma.f k a0 a1 t774).bind fun bt775 => ((soft_Mul.f k a0 a1).bind fun bt777 => (if bt768.1 = bt770.1 then (gimballaw05_MoreOnce.j0 k a0 bt775.1 bt775.2 bt777.1 bt777.2 (bt768.2 != bt770.2)) else (gimballaw05_MoreOnce.j0 k a0 bt775.1 bt775.2 bt777.1 bt777.2 true))))))))) else (some false))
theorem gimballaw05_MoreOnce.mono_l : ∀ k, (∀ y0 y1 y2 y3 y4 y5, LeO (gimballaw05_MoreOnce.j0 k y0 y1 y2 y3 y4 y5) (gimballaw05_MoreOnce.j0 (k + 1) y0 y1 y2 y3 y4 y5)) ∧ (∀ y0 y1, LeO (gimballaw05_MoreOnce.j1 k y0 y1) (gimballaw05_MoreOnce.j1 (k + 1) y0 y1)) ∧ (∀ y0 y1, LeO (gimballaw05_MoreOnce.j2 k y0 y1) (gimballaw05_MoreOnce.j2 (k + 1) y0 y1))
 | 0 => ⟨fun _ _ _ _ _ _ r h => by simp [gimballaw05_MoreOnce.j0] at h, fun _ _ r h => by simp [gimballaw05_MoreOnce.j1] at h, fun _ _ r h => by simp [gimballaw05_MoreOnce.j2] at h⟩
 | k + 1 => by
  obtain ⟨ih0, ih1, ih2⟩ := gimballaw05_MoreOnce.mono_l k
  refine ⟨?_, ?_, ?_⟩
  ·
   intro y0 y1 y2 y3 y4 y5
   unfold gimballaw05_MoreOnce.j0
   repeat' first
   | (with_reducible exact ih0 _ _ _ _ _ _)
   | (with_reducible exact ih1 _ _)
   | (with_reducible exact ih2 _ _)
   | (with_reducible exact gimballaw05_head.mono _)
   | (with_reducible exact more_Fma.mono _ _ _ _)
   | (with_reducible exact more_Sqrt.mono _ _)
   | (with_reducible exact soft_Add.mono _ _ _)
   | (with_reducible exact soft_Mul.mono _ _ _)
   | (with_reducible exact word_Next.mono _ _)
   | (with_reducible exact word_Prev.mono _ _)
   | (with_reducible exact LeO.refl _)
   | (with_reducible exact LeO.none _)
   | (with_reducible refine LeO.ite ?_ ?_)
   | (with_reducible refine LeO.bind ?_ (fun _ => ?_))
   | exact ih0 _ _ _ _ _ _
   | exact ih1 _ _
   | exact ih2 _ _
   | exact gimballaw05_head.mono _
   | exact more_Fma.mono _ _ _ _
   | exact more_Sqrt.mono _ _
   | exact soft_Add.mono _ _ _
   | exact soft_Mul.mono _ _ _
   | exact word_Next.mono _ _
   | exact word_Prev.mono _ _
   | exact LeO.none _
   | refine LeO.ite ?_ ?_
   | refine LeO.bind ?_ (fun _ => ?_)
  ·
   intro y0 y1
   unfold gimballaw05_MoreOnce.j1
   repeat' first
   | (with_reducible exact ih0 _ _ _ _ _ _)
   | (with_reducible exact ih1 _ _)
   | (with_reducible exact ih2 _ _)
   | (with_reducible exact gimballaw05_head.mono _)
   | (with_reducible exact more_Fma.mono _ _ _ _)
   | (with_reducible exact more_Sqrt.mono _ _)
   | (with_reducible exact soft_Add.mono _ _ _)
   | (with_reducible exact soft_Mul.mono _ _ _)
   | (with_reducible exact word_Next.mono _ _)
   | (with_reducible exact word_Prev.mono _ _)
   | (with_reducible exact LeO.refl _)
   | (with_reducible exact LeO.none _)
   | (with_reducible refine LeO.ite ?_ ?_)
   | (with_reducible refine LeO.bind ?_ (fun _ => ?_))
   | exact ih0 _ _ _ _ _ _
   | exact ih1 _ _
   | exact ih2 _ _
   | exact gimballaw05_head.mono _
   | exact more_Fma.mono _ _ _ _
   | exact more_Sqrt.mono _ _
   | exact soft_Add.mono _ _ _
   | exact soft_Mul.mono _ _ _
   | exact word_Next.mono _ _
   | exact word_Prev.mono _ _
   | exact LeO.none _
   | refine LeO.ite ?_ ?_
   | refine LeO.bind ?_ (fun _ => ?_)
  ·
   intro y0 y1
   unfold gimballaw05_MoreOnce.j2
   repeat' first
   | (with_reducible exact ih0 _ _ _ _ _ _)
   | (with_reducible exact ih1 _ _)
   | (with_reducible exact ih2 _ _)
   | (with_reducible exact gimballaw05_head.mono _)
   | (with_reducible exact more_Fma.mono _ _ _ _)
   | (with_reducible exact more_Sqrt.mono _ _)
   | (with_reducible exact soft_Add.mono _ _ _)
   | (with_reducible exact soft_Mul.mono _ _ _)
   | (with_reducible exact word_Next.mono _ _)
   | (with_reducible exact word_Prev.mono _ _)
   | (with_reducible exact LeO.refl _)
   | (with_reducible exact LeO.none _)
   | (with_reducible refine LeO.ite ?_ ?_)
   | (with_reducible refine LeO.bind ?_ (fun _ => ?_))
   | exact ih0 _ _ _ _ _ _
   | exact ih1 _ _
   | exact ih2 _ _
   | exact gimballaw05_head.mono _
   | exact more_Fma.mono _ _ _ _
   | exact more_Sqrt.mono _ _
   | exact soft_Add.mono _ _ _
   | exact soft_Mul.mono _ _ _
   | exact word_Next.mono _ _
   | exact word_Prev.mono _ _
   | exact LeO.none _
   | refine LeO.ite ?_ ?_
   | refine LeO.bind ?_ (fun _ => ?_)
theorem gimballaw05_MoreOnce.mono : ∀ a0 a1 k, LeO (gimballaw05_MoreOnce.f k a0 a1) (gimballaw05_MoreOnce.f (k + 1) a0 a1) := by
 intro a0 a1 k
 obtain ⟨ih0, ih1, ih2⟩ := gimballaw05_MoreOnce.mono_l k
 unfold gimballaw05_MoreOnce.f
 repeat' first
   | (with_reducible exact ih0 _ _ _ _ _ _)
   | (with_reducible exact ih1 _ _)
   | (with_reducible exact ih2 _ _)
   | (with_reducible exact gimballaw05_head.mono _)
   | (with_reducible exact more_Fma.mono _ _ _ _)
   | (with_reducible exact more_Sqrt.mono _ _)
   | (with_reducible exact soft_Add.mono _ _ _)
   | (with_reducible exact soft_Mul.mono _ _ _)
   | (with_reducible exact word_Next.mono _ _)
   | (with_reducible exact word_Prev.mono _ _)
   | (with_reducible exact LeO.refl _)
   | (with_reducible exact LeO.none _)
   | (with_reducible refine LeO.ite ?_ ?_)
   | (with_reducible refine LeO.bind ?_ (fun _ => ?_))
   | exact ih0 _ _ _ _ _ _
   | exact ih1 _ _
   | exact ih2 _ _
   | exact gimballaw05_head.mono _
   | exact more_Fma.mono _ _ _ _
   | exact more_Sqrt.mono _ _
   | exact soft_Add.mono _ _ _
   | exact soft_Mul.mono _ _ _
   | exact word_Next.mono _ _
   | exact word_Prev.mono _ _
   | exact LeO.none _
   | refine LeO.ite ?_ ?_
   | refine LeO.bind ?_ (fun _ => ?_)
set_option maxHeartbeats 8000000 in
set_option maxRecDepth 100000 in
theorem gimballaw05_MoreOnce.calls (k : Nat) (a0 : Int) (a1 : Int) (r : Bool) (w : World) (h : gimballaw05_MoreOnce.f k a0 a1 = some r) :
  Calls Try.prog 9 #[.int .u64 a0, .int .u64 a1] w fun e w' => e = .returned (.bool r) ∧ Below w.heap.size w w' := by
 have HB := Aside0.mk (Below.refl w.heap.size w)
 have H : ((gimballaw05_head.f k).bind fun t767 => (if t767 = true then ((more_Fma.f k a0 4607182418800017408 a1).bind fun bt768 => ((soft_Add.f k a0 a1).bind fun bt770 => ((word_Neg.f a0).bind fun t772 => ((word_Neg.f a1).bind fun t773 => ((word_Make.f (t772 != t773) 0 0).bind fun t774 => ((more_Fma.f k a0 a1 t774).bind fun bt775 => ((soft_Mul.f k a0 a1).bind fun bt777 => (if bt768.1 = bt770.1 then (gimballaw05_MoreOnce.j0 k a0 bt775.1 bt775.2 bt777.1 bt777.2 (bt768.2 != bt770.2)) else (gimballaw05_MoreOnce.j0 k a0 bt775.1 bt775.2 bt777.1 bt777.2 true))))))))) else (some false))) = some r := h
 clear h
 obtain ⟨t767, A30, H⟩ := Option.bind_eq_some_iff.mp H
 (try dsimp -simprocs only at H)
 have A3 := Aside0.mk A30
 clear A30
 by_cases c4 : t767 = true
 ·
  subst c4
  rw [if_pos rfl] at H
  obtain ⟨⟨t768, t769⟩, A50, H⟩ := Option.bind_eq_some_iff.mp H
  (try dsimp -simprocs only at H)
  have A5 := Aside0.mk A50
  clear A50
  obtain ⟨⟨t770, t771⟩, A60, H⟩ := Option.bind_eq_some_iff.mp H
  (try dsimp -simprocs only at H)
  have A6 := Aside0.mk A60
  clear A60
  obtain ⟨t772, A70, H⟩ := Option.bind_eq_some_iff.mp H
  (try dsimp -simprocs only at H)
  have A7 := Aside0.mk A70
  clear A70
  obtain ⟨t773, A80, H⟩ := Option.bind_eq_some_iff.mp H
  (try dsimp -simprocs only at H)
  have A8 := Aside0.mk A80
  clear A80
  obtain ⟨t774, A90, H⟩ := Option.bind_eq_some_iff.mp H
  (try dsimp -simprocs only at H)
  have A9 := Aside0.mk A90
  clear A90
  obtain ⟨⟨t775, t776⟩, A100, H⟩ := Option.bind_eq_some_iff.mp H
  (try dsimp -simprocs only at H)
  have A10 := Aside0.mk A100
  clear A100
  obtain ⟨⟨t777, t778⟩, A110, H⟩ := Option.bind_eq_some_iff.mp H
  (try dsimp -simprocs only at H)
  have A11 := Aside0.mk A110
  clear A110
  have HC12 := Aside0.mk H
  clear H
  go_enter Try.func9, Try.ntmps9
  go_upto_region 8 with (first | ((with_reducible refine gate_callee (f := 10) rfl ?_); refine goesL_ (some 20) rfl rfl Try.func10 (by kernel_rfl) rfl #[] rfl ga ?_; (with_reducible refine (gimballaw05_head.calls k  true _ A3.out).mono ?_); rintro e w13 ⟨rfl, hb⟩; refine ⟨_, rfl, ?_⟩; have n0_ := Aside0.mk (below_step bel hb); clear HB; have HB := n0_; clear n0_; (try clear hb)) | ((with_reducible refine gate_callee (f := 28) rfl ?_); refine goesL_ (some 25) rfl rfl Try.func28 (by kernel_rfl) rfl #[.int .u64 a0, .int .u64 4607182418800017408, .int .u64 a1] rfl ga ?_; (with_reducible refine (more_Fma.calls k a0 4607182418800017408 a1 t768 t769 _ A5.out).mono ?_); rintro e w14 ⟨rfl, hb⟩; refine ⟨_, rfl, ?_⟩; have n0_ := Aside0.mk (below_step bel hb); clear HB; have HB := n0_; clear n0_; (try clear hb)) | ((with_reducible refine gate_callee (f := 30) rfl ?_); refine goesL_ (some 31) rfl rfl Try.func30 (by kernel_rfl) rfl #[.int .u64 a0, .int .u64 a1] rfl ga ?_; (with_reducible refine (soft_Add.calls k a0 a1 t770 t771 _ A6.out).mono ?_); rintro e w15 ⟨rfl, hb⟩; refine ⟨_, rfl, ?_⟩; have n0_ := Aside0.mk (below_step bel hb); clear HB; have HB := n0_; clear n0_; (try clear hb)) | ((with_reducible refine gate_callee (f := 21) rfl ?_); refine goesL_ (some 35) rfl rfl Try.func21 (by kernel_rfl) rfl #[.int .u64 a0] rfl ga ?_; (with_reducible refine (word_Neg.calls a0 t772 _ A7.out).mono ?_); rintro e w' ⟨rfl, ⟨nd, rfl⟩⟩; refine ⟨_, rfl, ?_⟩) | ((with_reducible refine gate_callee (f := 21) rfl ?_); refine goesL_ (some 37) rfl rfl Try.func21 (by kernel_rfl) rfl #[.int .u64 a1] rfl ga ?_; (with_reducible refine (word_Neg.calls a1 t773 _ A8.out).mono ?_); rintro e w' ⟨rfl, ⟨nd, rfl⟩⟩; refine ⟨_, rfl, ?_⟩) | ((with_reducible refine gate_callee (f := 31) rfl ?_); refine goesL_ (some 39) rfl rfl Try.func31 (by kernel_rfl) rfl #[.bool (t772 != t773), .int .i64 0, .int .u64 0] rfl ga ?_; (with_reducible refine (word_Make.calls (t772 != t773) 0 0 t774 _ A9.out).mono ?_); rintro e w' ⟨rfl, ⟨nd, rfl⟩⟩; refine ⟨_, rfl, ?_⟩) | ((with_reducible refine gate_callee (f := 28) rfl ?_); refine goesL_ (some 44) rfl rfl Try.func28 (by kernel_rfl) rfl #[.int .u64 a0, .int .u64 a1, .int .u64 t774] rfl ga ?_; (with_reducible refine (more_Fma.calls k a0 a1 t774 t775 t776 _ A10.out).mono ?_); rintro e w16 ⟨rfl, hb⟩; refine ⟨_, rfl, ?_⟩; have n0_ := Aside0.mk (below_step bel hb); clear HB; have HB := n0_; clear n0_; (try clear hb)) | ((with_reducible refine gate_callee (f := 27) rfl ?_); refine goesL_ (some 50) rfl rfl Try.func27 (by kernel_rfl) rfl #[.int .u64 a0, .int .u64 a1] rfl ga ?_; (with_reducible refine (soft_Mul.calls k a0 a1 t777 t778 _ A11.out).mono ?_); rintro e w17 ⟨rfl, hb⟩; refine ⟨_, rfl, ?_⟩; have n0_ := Aside0.mk (below_step bel hb); clear HB; have HB := n0_; clear n0_; (try clear hb)))
  (try simp only [Act.put, List.setIfInBounds_toArray, List.set_cons_zero, List.set_cons_succ])
  go_cut [60] (fun v60 wc => ∃ (kq : Nat) (x60_11 : Bool), v60 = .bool x60_11 ∧ Aside0 (gimballaw05_MoreOnce.j0 kq a0 t775 t776 t777 t778 x60_11 = some r) ∧ Aside0 (kq ≤ k) ∧ Aside0 (Below w.heap.size w wc))
  case first =>
   have H := HC12.out
   clear HC12
   by_cases c18 : t768 = t770
   ·
    rw [if_pos c18] at H
    have c18b0 : (t768 == t770) = true := beq_iff_eq.mpr c18
    have c18b1 : (t768 != t770) = false := bne_eq_false_iff_eq.mpr c18
    clear c18
    (first | rw [c18b0] | (simp only [i64_w, i32_w]; rw [c18b0]) | skip)
    have H' := Aside0.mk H
    clear H
    go_wp2
    go_meet
    case rel => exact ⟨_, ((t769 != t771)), (by first | rfl | (simp; done) | (simp [*]; done)), H', ⟨by first | omega | exact Nat.le_refl _⟩, ⟨bel⟩⟩
   ·
    rw [if_neg c18] at H
    have c18b0 : (t768 == t770) = false := beq_eq_false_iff_ne.mpr c18
    have c18b1 : (t768 != t770) = true := bne_iff_ne.mpr c18
    (first | rw [c18b0] | (simp only [i64_w, i32_w]; rw [c18b0]) | skip)
    have H' := Aside0.mk H
    clear H
    go_wp2
    go_meet
    case rel => exact ⟨_, (true), (by first | rfl | (simp; done) | (simp [*]; done)), H', ⟨by first | omega | exact Nat.le_refl _⟩, ⟨bel⟩⟩
  case rest =>
   clear HC12
   try clear c1
   try clear c2
   try clear p2
   try clear c3
   try clear c4
   try clear c9
   try clear c10
   try clear c18
   try clear c18b0
   try clear c18b1
   obtain ⟨kq, x60_11, rfl, HA, HJ11, HB⟩ := hcut
   cases kq with
   | zero => exact absurd HA.out (by simp [gimballaw05_MoreOnce.j0])
   | succ kj11 =>
    have H := HA.out
    clear HA
    simp only [gimballaw05_MoreOnce.j0] at H
    by_cases c19 : x60_11 = true
    ·
     subst c19
     rw [if_pos rfl] at H
     obtain rfl := Option.some.inj H
     go_wp2
     go_ret
     exact ⟨er, bel⟩
    ·
     replace c19 := Bool.eq_false_iff.mpr c19
     subst c19
     rw [if_neg (show ¬ (false = true) by decide)] at H
     have HC20 := Aside0.mk H
     clear H
     go_upto_region 10 with (fail)
     go_cut [68] (fun v68 wc => ∃ (kq : Nat) (x68_19 : Bool), v68 = .bool x68_19 ∧ Aside0 (gimballaw05_MoreOnce.j1 kq a0 x68_19 = some r) ∧ Aside0 (kq ≤ kj11) ∧ Aside0 (Below w.heap.size w wc))
     case first =>
      have H := HC20.out
      clear HC20
      by_cases c21 : t775 = t777
      ·
       rw [if_pos c21] at H
       have c21b0 : (t775 == t777) = true := beq_iff_eq.mpr c21
       have c21b1 : (t775 != t777) = false := bne_eq_false_iff_eq.mpr c21
       clear c21
       (first | rw [c21b0] | (simp only [i64_w, i32_w]; rw [c21b0]) | skip)
       have H' := Aside0.mk H
       clear H
       go_wp2
       go_meet
       case rel => exact ⟨_, ((t776 != t778)), (by first | rfl | (simp; done) | (simp [*]; done)), H', ⟨by have := HJ11.out; first | omega | exact Nat.le_refl _⟩, ⟨bel⟩⟩
      ·
       rw [if_neg c21] at H
       have c21b0 : (t775 == t777) = false := beq_eq_false_iff_ne.mpr c21
       have c21b1 : (t775 != t777) = true := bne_iff_ne.mpr c21
       (first | rw [c21b0] | (simp only [i64_w, i32_w]; rw [c21b0]) | skip)
       have H' := Aside0.mk H
       clear H
       go_wp2
       go_meet
       case rel => exact ⟨_, (true), (by first | rfl | (simp; done) | (simp [*]; done)), H', ⟨by have := HJ11.out; first | omega | exact Nat.le_refl _⟩, ⟨bel⟩⟩
     case rest =>
      clear HC20
      try clear c1
      try clear c2
      try clear p2
      try clear c3
      try clear c4
      try clear c9
      try clear c10
      try clear c18
      try clear c18b0
      try clear c18b1
      try clear c19
      try clear c21
      try clear c21b0
      try clear c21b1
      try clear p2
      obtain ⟨kq, x68_19, rfl, HA, HJ19, HB⟩ := hcut
      cases kq with
      | zero => exact absurd HA.out (by simp [gimballaw05_MoreOnce.j1])
      | succ kj19 =>
       have H := HA.out
       clear HA
       simp only [gimballaw05_MoreOnce.j1] at H
       by_cases c22 : x68_19 = true
       ·
        subst c22
        rw [if_pos rfl] at H
        obtain rfl := Option.some.inj H
        go_wp2
        go_ret
        exact ⟨er, bel⟩
       ·
        replace c22 := Bool.eq_false_iff.mpr c22
        subst c22
        rw [if_neg (show ¬ (false = true) by decide)] at H
        have HC23 := Aside0.mk H
        clear H
        go_upto_region 12 with (fail)
        go_cut [80] (fun v80 wc => ∃ (kq : Nat) (x80_22 : Bool), v80 = .bool x80_22 ∧ Aside0 (gimballaw05_MoreOnce.j2 kq a0 x80_22 = some r) ∧ Aside0 (kq ≤ kj19) ∧ Aside0 (Below w.heap.size w wc))
        case first =>
         have H := HC23.out
         clear HC23
         obtain ⟨t779, A240, H⟩ := Option.bind_eq_some_iff.mp H
         (try dsimp -simprocs only at H)
         have A24 := Aside0.mk A240
         clear A240
         by_cases c25 : t779 = true
         ·
          subst c25
          rw [if_pos rfl] at H
          have H' := Aside0.mk H
          clear H
          go_wp2_with (first | ((with_reducible refine gate_callee (f := 21) rfl ?_); refine goesL_ (some 70) rfl rfl Try.func21 (by kernel_rfl) rfl #[.int .u64 a0] rfl ga ?_; (with_reducible refine (word_Neg.calls a0 true _ A24.out).mono ?_); rintro e w' ⟨rfl, ⟨nd, rfl⟩⟩; refine ⟨_, rfl, ?_⟩))
          go_meet
          case rel => exact ⟨_, (true), (by first | rfl | (simp; done) | (simp [*]; done)), H', ⟨by have := HJ11.out; have := HJ19.out; first | omega | exact Nat.le_refl _⟩, ⟨bel⟩⟩
         ·
          replace c25 := Bool.eq_false_iff.mpr c25
          subst c25
          rw [if_neg (show ¬ (false = true) by decide)] at H
          obtain ⟨t780, A260, H⟩ := Option.bind_eq_some_iff.mp H
          (try dsimp -simprocs only at H)
          have A26 := Aside0.mk A260
          clear A260
          by_cases c27 : t780 = true
          ·
           subst c27
           rw [if_pos rfl] at H
           obtain ⟨t781, A280, H⟩ := Option.bind_eq_some_iff.mp H
           (try dsimp -simprocs only at H)
           have A28 := Aside0.mk A280
           clear A280
           have H' := Aside0.mk H
           clear H
           go_wp2_with (first | ((with_reducible refine gate_callee (f := 21) rfl ?_); refine goesL_ (some 70) rfl rfl Try.func21 (by kernel_rfl) rfl #[.int .u64 a0] rfl ga ?_; (with_reducible refine (word_Neg.calls a0 false _ A24.out).mono ?_); rintro e w' ⟨rfl, ⟨nd, rfl⟩⟩; refine ⟨_, rfl, ?_⟩) | (go_at_call 16; (with_reducible refine (word_Finite.calls a0 true _ A26.out).mono ?_); rintro e w' ⟨rfl, ⟨nd, rfl⟩⟩) | (go_at_call 32; (with_reducible refine (word_Exp.calls a0 t781 _ A28.out).mono ?_); rintro e w' ⟨rfl, ⟨nd, rfl⟩⟩))
           go_meet
           case rel => exact ⟨_, (decide (t781 < 100)), (by first | rfl | (simp; done) | (simp [*]; done)), H', ⟨by have := HJ11.out; have := HJ19.out; first | omega | exact Nat.le_refl _⟩, ⟨bel⟩⟩
          ·
           replace c27 := Bool.eq_false_iff.mpr c27
           subst c27
           rw [if_neg (show ¬ (false = true) by decide)] at H
           have H' := Aside0.mk H
           clear H
           go_wp2_with (first | ((with_reducible refine gate_callee (f := 21) rfl ?_); refine goesL_ (some 70) rfl rfl Try.func21 (by kernel_rfl) rfl #[.int .u64 a0] rfl ga ?_; (with_reducible refine (word_Neg.calls a0 false _ A24.out).mono ?_); rintro e w' ⟨rfl, ⟨nd, rfl⟩⟩; refine ⟨_, rfl, ?_⟩) | (go_at_call 16; (with_reducible refine (word_Finite.calls a0 false _ A26.out).mono ?_); rintro e w' ⟨rfl, ⟨nd, rfl⟩⟩))
           go_meet
           case rel => exact ⟨_, (true), (by first | rfl | (simp; done) | (simp [*]; done)), H', ⟨by have := HJ11.out; have := HJ19.out; first | omega | exact Nat.le_refl _⟩, ⟨bel⟩⟩
        case rest =>
         clear HC23
         try clear c1
         try clear c2
         try clear p2
         try clear c3
         try clear c4
         try clear c9
         try clear c10
         try clear c18
         try clear c18b0
         try clear c18b1
         try clear c19
         try clear c21
         try clear c21b0
         try clear c21b1
         try clear c22
         try clear c25
         try clear c27
         try clear c28
         try clear p2
         obtain ⟨kq, x80_22, rfl, HA, HJ22, HB⟩ := hcut
         cases kq with
         | zero => exact absurd HA.out (by simp [gimballaw05_MoreOnce.j2])
         | succ kj22 =>
          have H := HA.out
          clear HA
          simp only [gimballaw05_MoreOnce.j2] at H
          by_cases c29 : x80_22 = true
          ·
           subst c29
           rw [if_pos rfl] at H
           obtain rfl := Option.some.inj H
           go_wp2
           go_ret
           exact ⟨er, bel⟩
          ·
           replace c29 := Bool.eq_false_iff.mpr c29
           subst c29
           rw [if_neg (show ¬ (false = true) by decide)] at H
           obtain ⟨⟨t782, t783⟩, A300, H⟩ := Option.bind_eq_some_iff.mp H
           (try dsimp -simprocs only at H)
           have A30 := Aside0.mk A300
           clear A300
           obtain ⟨t784, A310, H⟩ := Option.bind_eq_some_iff.mp H
           (try dsimp -simprocs only at H)
           have A31 := Aside0.mk A310
           clear A310
           obtain ⟨t785, A320, H⟩ := Option.bind_eq_some_iff.mp H
           (try dsimp -simprocs only at H)
           have A32 := Aside0.mk A320
           clear A320
           obtain ⟨t786, A330, H⟩ := Option.bind_eq_some_iff.mp H
           (try dsimp -simprocs only at H)
           have A33 := Aside0.mk A330
           clear A330
           obtain ⟨⟨t787, t788⟩, A340, H⟩ := Option.bind_eq_some_iff.mp H
           (try dsimp -simprocs only at H)
           have A34 := Aside0.mk A340
           clear A340
           obtain ⟨t789, A350, H⟩ := Option.bind_eq_some_iff.mp H
           (try dsimp -simprocs only at H)
           have A35 := Aside0.mk A350
           clear A350
           obtain ⟨t790, A360, H⟩ := Option.bind_eq_some_iff.mp H
           (try dsimp -simprocs only at H)
           have A36 := Aside0.mk A360
           clear A360
           obtain ⟨t791, A370, H⟩ := Option.bind_eq_some_iff.mp H
           (try dsimp -simprocs only at H)
           have A37 := Aside0.mk A370
           clear A370
           obtain ⟨⟨t792, t793⟩, A380, H⟩ := Option.bind_eq_some_iff.mp H
           (try dsimp -simprocs only at H)
           have A38 := Aside0.mk A380
           clear A380
           obtain ⟨t794, A390, H⟩ := Option.bind_eq_some_iff.mp H
           (try dsimp -simprocs only at H)
           have A39 := Aside0.mk A390
           clear A390
           by_cases c40 : t794 = true
           ·
            subst c40
            rw [if_pos rfl] at H
            obtain ⟨t795, A410, H⟩ := Option.bind_eq_some_iff.mp H
            (try dsimp -simprocs only at H)
            have A41 := Aside0.mk A410
            clear A410
            by_cases c42 : t795 = true
            ·
             subst c42
             rw [if_pos rfl] at H
             obtain rfl := Option.some.inj H
             go_wp2_with (first | ((with_reducible refine gate_callee (f := 11) rfl ?_); refine goesL_ (some 83) rfl rfl Try.func11 (by kernel_rfl) rfl #[.int .u64 a0] rfl ga ?_; (with_reducible refine (more_Sqrt.calls kj22 a0 t782 t783 _ A30.out).mono ?_); rintro e w43 ⟨rfl, hb⟩; refine ⟨_, rfl, ?_⟩; have n0_ := Aside0.mk (below_step bel hb); clear HB; have HB := n0_; clear n0_; (try clear hb)) | ((with_reducible refine gate_callee (f := 33) rfl ?_); refine goesL_ (some 88) rfl rfl Try.func33 (by kernel_rfl) rfl #[.int .u64 t782] rfl ga ?_; (with_reducible refine (word_Prev.calls kj22 t782 t784 _ A31.out).mono ?_); rintro e w' ⟨rfl, ⟨nd, rfl⟩⟩; refine ⟨_, rfl, ?_⟩) | ((with_reducible refine gate_callee (f := 33) rfl ?_); refine goesL_ (some 90) rfl rfl Try.func33 (by kernel_rfl) rfl #[.int .u64 t782] rfl ga ?_; (with_reducible refine (word_Prev.calls kj22 t782 t785 _ A32.out).mono ?_); rintro e w' ⟨rfl, ⟨nd, rfl⟩⟩; refine ⟨_, rfl, ?_⟩) | ((with_reducible refine gate_callee (f := 34) rfl ?_); refine goesL_ (some 92) rfl rfl Try.func34 (by kernel_rfl) rfl #[.int .u64 a0] rfl ga ?_; (with_reducible refine (word_Flip.calls a0 t786 _ A33.out).mono ?_); rintro e w' ⟨rfl, ⟨nd, rfl⟩⟩; refine ⟨_, rfl, ?_⟩) | ((with_reducible refine gate_callee (f := 28) rfl ?_); refine goesL_ (some 93) rfl rfl Try.func28 (by kernel_rfl) rfl #[.int .u64 t784, .int .u64 t785, .int .u64 t786] rfl ga ?_; (with_reducible refine (more_Fma.calls kj22 t784 t785 t786 t787 t788 _ A34.out).mono ?_); rintro e w44 ⟨rfl, hb⟩; refine ⟨_, rfl, ?_⟩; have n0_ := Aside0.mk (below_step bel hb); clear HB; have HB := n0_; clear n0_; (try clear hb)) | ((with_reducible refine gate_callee (f := 35) rfl ?_); refine goesL_ (some 98) rfl rfl Try.func35 (by kernel_rfl) rfl #[.int .u64 t782] rfl ga ?_; (with_reducible refine (word_Next.calls kj22 t782 t789 _ A35.out).mono ?_); rintro e w' ⟨rfl, ⟨nd, rfl⟩⟩; refine ⟨_, rfl, ?_⟩) | ((with_reducible refine gate_callee (f := 35) rfl ?_); refine goesL_ (some 100) rfl rfl Try.func35 (by kernel_rfl) rfl #[.int .u64 t782] rfl ga ?_; (with_reducible refine (word_Next.calls kj22 t782 t790 _ A36.out).mono ?_); rintro e w' ⟨rfl, ⟨nd, rfl⟩⟩; refine ⟨_, rfl, ?_⟩) | ((with_reducible refine gate_callee (f := 34) rfl ?_); refine goesL_ (some 102) rfl rfl Try.func34 (by kernel_rfl) rfl #[.int .u64 a0] rfl ga ?_; (with_reducible refine (word_Flip.calls a0 t791 _ A37.out).mono ?_); rintro e w' ⟨rfl, ⟨nd, rfl⟩⟩; refine ⟨_, rfl, ?_⟩) | ((with_reducible refine gate_callee (f := 28) rfl ?_); refine goesL_ (some 103) rfl rfl Try.func28 (by kernel_rfl) rfl #[.int .u64 t789, .int .u64 t790, .int .u64 t791] rfl ga ?_; (with_reducible refine (more_Fma.calls kj22 t789 t790 t791 t792 t793 _ A38.out).mono ?_); rintro e w45 ⟨rfl, hb⟩; refine ⟨_, rfl, ?_⟩; have n0_ := Aside0.mk (below_step bel hb); clear HB; have HB := n0_; clear n0_; (try clear hb)) | ((with_reducible refine gate_callee (f := 21) rfl ?_); refine goesL_ (some 107) rfl rfl Try.func21 (by kernel_rfl) rfl #[.int .u64 t787] rfl ga ?_; (with_reducible refine (word_Neg.calls t787 true _ A39.out).mono ?_); rintro e w' ⟨rfl, ⟨nd, rfl⟩⟩; refine ⟨_, rfl, ?_⟩) | (go_at_call 21; (with_reducible refine (word_Neg.calls t792 true _ A41.out).mono ?_); rintro e w' ⟨rfl, ⟨nd, rfl⟩⟩))
             go_ret
             exact ⟨er, bel⟩
            ·
             replace c42 := Bool.eq_false_iff.mpr c42
             subst c42
             rw [if_neg (show ¬ (false = true) by decide)] at H
             obtain ⟨t796, A460, H⟩ := Option.bind_eq_some_iff.mp H
             (try dsimp -simprocs only at H)
             have A46 := Aside0.mk A460
             clear A460
             obtain rfl := Option.some.inj H
             go_wp2_with (first | ((with_reducible refine gate_callee (f := 11) rfl ?_); refine goesL_ (some 83) rfl rfl Try.func11 (by kernel_rfl) rfl #[.int .u64 a0] rfl ga ?_; (with_reducible refine (more_Sqrt.calls kj22 a0 t782 t783 _ A30.out).mono ?_); rintro e w47 ⟨rfl, hb⟩; refine ⟨_, rfl, ?_⟩; have n0_ := Aside0.mk (below_step bel hb); clear HB; have HB := n0_; clear n0_; (try clear hb)) | ((with_reducible refine gate_callee (f := 33) rfl ?_); refine goesL_ (some 88) rfl rfl Try.func33 (by kernel_rfl) rfl #[.int .u64 t782] rfl ga ?_; (with_reducible refine (word_Prev.calls kj22 t782 t784 _ A31.out).mono ?_); rintro e w' ⟨rfl, ⟨nd, rfl⟩⟩; refine ⟨_, rfl, ?_⟩) | ((with_reducible refine gate_callee (f := 33) rfl ?_); refine goesL_ (some 90) rfl rfl Try.func33 (by kernel_rfl) rfl #[.int .u64 t782] rfl ga ?_; (with_reducible refine (word_Prev.calls kj22 t782 t785 _ A32.out).mono ?_); rintro e w' ⟨rfl, ⟨nd, rfl⟩⟩; refine ⟨_, rfl, ?_⟩) | ((with_reducible refine gate_callee (f := 34) rfl ?_); refine goesL_ (some 92) rfl rfl Try.func34 (by kernel_rfl) rfl #[.int .u64 a0] rfl ga ?_; (with_reducible refine (word_Flip.calls a0 t786 _ A33.out).mono ?_); rintro e w' ⟨rfl, ⟨nd, rfl⟩⟩; refine ⟨_, rfl, ?_⟩) | ((with_reducible refine gate_callee (f := 28) rfl ?_); refine goesL_ (some 93) rfl rfl Try.func28 (by kernel_rfl) rfl #[.int .u64 t784, .int .u64 t785, .int .u64 t786] rfl ga ?_; (with_reducible refine (more_Fma.calls kj22 t784 t785 t786 t787 t788 _ A34.out).mono ?_); rintro e w48 ⟨rfl, hb⟩; refine ⟨_, rfl, ?_⟩; have n0_ := Aside0.mk (below_step bel hb); clear HB; have HB := n0_; clear n0_; (try clear hb)) | ((with_reducible refine gate_callee (f := 35) rfl ?_); refine goesL_ (some 98) rfl rfl Try.func35 (by kernel_rfl) rfl #[.int .u64 t782] rfl ga ?_; (with_reducible refine (word_Next.calls kj22 t782 t789 _ A35.out).mono ?_); rintro e w' ⟨rfl, ⟨nd, rfl⟩⟩; refine ⟨_, rfl, ?_⟩) | ((with_reducible refine gate_callee (f := 35) rfl ?_); refine goesL_ (some 100) rfl rfl Try.func35 (by kernel_rfl) rfl #[.int .u64 t782] rfl ga ?_; (with_reducible refine (word_Next.calls kj22 t782 t790 _ A36.out).mono ?_); rintro e w' ⟨rfl, ⟨nd, rfl⟩⟩; refine ⟨_, rfl, ?_⟩) | ((with_reducible refine gate_callee (f := 34) rfl ?_); refine goesL_ (some 102) rfl rfl Try.func34 (by kernel_rfl) rfl #[.int .u64 a0] rfl ga ?_; (with_reducible refine (word_Flip.calls a0 t791 _ A37.out).mono ?_); rintro e w' ⟨rfl, ⟨nd, rfl⟩⟩; refine ⟨_, rfl, ?_⟩) | ((with_reducible refine gate_callee (f := 28) rfl ?_); refine goesL_ (some 103) rfl rfl Try.func28 (by kernel_rfl) rfl #[.int .u64 t789, .int .u64 t790, .int .u64 t791] rfl ga ?_; (with_reducible refine (more_Fma.calls kj22 t789 t790 t791 t792 t793 _ A38.out).mono ?_); rintro e w49 ⟨rfl, hb⟩; refine ⟨_, rfl, ?_⟩; have n0_ := Aside0.mk (below_step bel hb); clear HB; have HB := n0_; clear n0_; (try clear hb)) | ((with_reducible refine gate_callee (f := 21) rfl ?_); refine goesL_ (some 107) rfl rfl Try.func21 (by kernel_rfl) rfl #[.int .u64 t787] rfl ga ?_; (with_reducible refine (word_Neg.calls t787 true _ A39.out).mono ?_); rintro e w' ⟨rfl, ⟨nd, rfl⟩⟩; refine ⟨_, rfl, ?_⟩) | (go_at_call 21; (with_reducible refine (word_Neg.calls t792 false _ A41.out).mono ?_); rintro e w' ⟨rfl, ⟨nd, rfl⟩⟩) | (go_at_call 25; (with_reducible refine (word_Abs.calls t792 t796 _ A46.out).mono ?_); rintro e w' ⟨rfl, ⟨nd, rfl⟩⟩))
             go_ret
             exact ⟨er, bel⟩
           ·
            replace c40 := Bool.eq_false_iff.mpr c40
            subst c40
            rw [if_neg (show ¬ (false = true) by decide)] at H
            obtain rfl := Option.some.inj H
            go_wp2_with (first | ((with_reducible refine gate_callee (f := 11) rfl ?_); refine goesL_ (some 83) rfl rfl Try.func11 (by kernel_rfl) rfl #[.int .u64 a0] rfl ga ?_; (with_reducible refine (more_Sqrt.calls kj22 a0 t782 t783 _ A30.out).mono ?_); rintro e w50 ⟨rfl, hb⟩; refine ⟨_, rfl, ?_⟩; have n0_ := Aside0.mk (below_step bel hb); clear HB; have HB := n0_; clear n0_; (try clear hb)) | ((with_reducible refine gate_callee (f := 33) rfl ?_); refine goesL_ (some 88) rfl rfl Try.func33 (by kernel_rfl) rfl #[.int .u64 t782] rfl ga ?_; (with_reducible refine (word_Prev.calls kj22 t782 t784 _ A31.out).mono ?_); rintro e w' ⟨rfl, ⟨nd, rfl⟩⟩; refine ⟨_, rfl, ?_⟩) | ((with_reducible refine gate_callee (f := 33) rfl ?_); refine goesL_ (some 90) rfl rfl Try.func33 (by kernel_rfl) rfl #[.int .u64 t782] rfl ga ?_; (with_reducible refine (word_Prev.calls kj22 t782 t785 _ A32.out).mono ?_); rintro e w' ⟨rfl, ⟨nd, rfl⟩⟩; refine ⟨_, rfl, ?_⟩) | ((with_reducible refine gate_callee (f := 34) rfl ?_); refine goesL_ (some 92) rfl rfl Try.func34 (by kernel_rfl) rfl #[.int .u64 a0] rfl ga ?_; (with_reducible refine (word_Flip.calls a0 t786 _ A33.out).mono ?_); rintro e w' ⟨rfl, ⟨nd, rfl⟩⟩; refine ⟨_, rfl, ?_⟩) | ((with_reducible refine gate_callee (f := 28) rfl ?_); refine goesL_ (some 93) rfl rfl Try.func28 (by kernel_rfl) rfl #[.int .u64 t784, .int .u64 t785, .int .u64 t786] rfl ga ?_; (with_reducible refine (more_Fma.calls kj22 t784 t785 t786 t787 t788 _ A34.out).mono ?_); rintro e w51 ⟨rfl, hb⟩; refine ⟨_, rfl, ?_⟩; have n0_ := Aside0.mk (below_step bel hb); clear HB; have HB := n0_; clear n0_; (try clear hb)) | ((with_reducible refine gate_callee (f := 35) rfl ?_); refine goesL_ (some 98) rfl rfl Try.func35 (by kernel_rfl) rfl #[.int .u64 t782] rfl ga ?_; (with_reducible refine (word_Next.calls kj22 t782 t789 _ A35.out).mono ?_); rintro e w' ⟨rfl, ⟨nd, rfl⟩⟩; refine ⟨_, rfl, ?_⟩) | ((with_reducible refine gate_callee (f := 35) rfl ?_); refine goesL_ (some 100) rfl rfl Try.func35 (by kernel_rfl) rfl #[.int .u64 t782] rfl ga ?_; (with_reducible refine (word_Next.calls kj22 t782 t790 _ A36.out).mono ?_); rintro e w' ⟨rfl, ⟨nd, rfl⟩⟩; refine ⟨_, rfl, ?_⟩) | ((with_reducible refine gate_callee (f := 34) rfl ?_); refine goesL_ (some 102) rfl rfl Try.func34 (by kernel_rfl) rfl #[.int .u64 a0] rfl ga ?_; (with_reducible refine (word_Flip.calls a0 t791 _ A37.out).mono ?_); rintro e w' ⟨rfl, ⟨nd, rfl⟩⟩; refine ⟨_, rfl, ?_⟩) | ((with_reducible refine gate_callee (f := 28) rfl ?_); refine goesL_ (some 103) rfl rfl Try.func28 (by kernel_rfl) rfl #[.int .u64 t789, .int .u64 t790, .int .u64 t791] rfl ga ?_; (with_reducible refine (more_Fma.calls kj22 t789 t790 t791 t792 t793 _ A38.out).mono ?_); rintro e w52 ⟨rfl, hb⟩; refine ⟨_, rfl, ?_⟩; have n0_ := Aside0.mk (below_step bel hb); clear HB; have HB := n0_; clear n0_; (try clear hb)) | ((with_reducible refine gate_callee (f := 21) rfl ?_); refine goesL_ (some 107) rfl rfl Try.func21 (by kernel_rfl) rfl #[.int .u64 t787] rfl ga ?_; (with_reducible refine (word_Neg.calls t787 false _ A39.out).mono ?_); rintro e w' ⟨rfl, ⟨nd, rfl⟩⟩; refine ⟨_, rfl, ?_⟩))
            go_ret
            exact ⟨er, bel⟩
 ·
  replace c4 := Bool.eq_false_iff.mpr c4
  subst c4
  rw [if_neg (show ¬ (false = true) by decide)] at H
  obtain rfl := Option.some.inj H
  go_enter Try.func9, Try.ntmps9
  go_wp2_with (first | ((with_reducible refine gate_callee (f := 10) rfl ?_); refine goesL_ (some 20) rfl rfl Try.func10 (by kernel_rfl) rfl #[] rfl ga ?_; (with_reducible refine (gimballaw05_head.calls k  false _ A3.out).mono ?_); rintro e w53 ⟨rfl, hb⟩; refine ⟨_, rfl, ?_⟩; have n0_ := Aside0.mk (below_step bel hb); clear HB; have HB := n0_; clear n0_; (try clear hb)))
  go_ret
  exact ⟨er, bel⟩

/-- THE ONE PURE STATEMENT of gimballaw05_MoreOnce: yours. -/
def gimballaw05_MoreOnce.Pure : Prop := ∀ (a0 : Int) (a1 : Int), (Lit.int .u64 a0).wf = true → (Lit.int .u64 a1).wf = true → ∃ k, gimballaw05_MoreOnce.f k a0 a1 = some true
theorem gimballaw05_MoreOnce.walk (P : gimballaw05_MoreOnce.Pure) (a0 : Int) (a1 : Int) (w : World) (w0 : (Lit.int .u64 a0).wf = true) (w1 : (Lit.int .u64 a1).wf = true) :
  Calls Try.prog 9 #[.int .u64 a0, .int .u64 a1] w fun e w' => e = .returned (.bool true) ∧ Below w.heap.size w w' := by
 obtain ⟨k, h⟩ := P a0 a1 w0 w1
 refine (gimballaw05_MoreOnce.calls k a0 a1 true w h).mono ?_
 rintro e w' ⟨rfl, hd⟩
 exact ⟨rfl, hd⟩

end Go.Proofs.Ytcappkphcjgeoaa.F
