-- Written by a program of this seat's session (mkprint), out of the translation.
import Derived.Test.YtnjobojkoaknpaaShort
import Derived.Test.YtnjobojkoaknpaaFx0
import Derived.Test.YtnjobojkoaknpaaFx2
namespace Go.Proofs.Ytnjobojkoaknpaa.F
open Go.RowKit Go.Proofs.YtnjobojkoaknpaaW.PrintWords Go.Proofs.YtnjobojkoaknpaaW.PrintLast Go.Proofs.YtnjobojkoaknpaaW.PrintMore
attribute [local go_sem] max2_int min2_int max_two min_two max_three min_three max_four min_four   -- for this text's walks alone
set_option linter.unusedVariables false
set_option linter.unusedSimpArgs false

/-! ### word_Neg: function 39 -/
def word_Neg.f (a0 : Int) : Option (Bool) := some ((a0 / 9223372036854775808) == 1)
set_option maxHeartbeats 8000000 in
set_option maxRecDepth 100000 in
theorem word_Neg.calls (a0 : Int) (r : Bool) (w : World) (h : word_Neg.f a0 = some r) :
  Calls Try.prog 39 #[.int .u64 a0] w fun e w' => e = .returned (.bool r) ∧ Drawn0 w w' := by
 have H : (some ((a0 / 9223372036854775808) == 1)) = some r := h
 clear h
 obtain rfl := Option.some.inj H
 go_enter Try.func39, Try.ntmps39
 go_wp2
 go_ret
 exact ⟨by first | rfl | (simp; done) | (simp [*]; done), by repeat (first | exact Drawn0.refl _ | apply Drawn0.step)⟩

/-! ### word_Signals: function 56 -/
def word_Signals.f (k : Nat) (a0 : Int) : Option (Bool) := (word_Kind.f k a0).bind fun t153 => (if t153 = 5 then (some ((Go.bits .and .u64 (a0 / 2251799813685248) 1) == 0)) else (some false))
theorem word_Signals.mono : ∀ a0 k, LeO (word_Signals.f k a0) (word_Signals.f (k + 1) a0) := by
 intro a0 k
 unfold word_Signals.f
 repeat' with_reducible first | apply word_Kind.mono | exact LeO.refl _ | exact LeO.none _ | refine LeO.ite ?_ ?_ | refine LeO.bind ?_ (fun _ => ?_)
set_option maxHeartbeats 8000000 in
set_option maxRecDepth 100000 in
theorem word_Signals.calls (k : Nat) (a0 : Int) (r : Bool) (w : World) (h : word_Signals.f k a0 = some r) :
  Calls Try.prog 56 #[.int .u64 a0] w fun e w' => e = .returned (.bool r) ∧ Drawn0 w w' := by
 have H : ((word_Kind.f k a0).bind fun t153 => (if t153 = 5 then (some ((Go.bits .and .u64 (a0 / 2251799813685248) 1) == 0)) else (some false))) = some r := h
 clear h
 obtain ⟨t153, A20, H⟩ := Option.bind_eq_some_iff.mp H
 (try dsimp -simprocs only at H)
 have A2 := Aside0.mk A20
 clear A20
 by_cases c3 : t153 = 5
 rotate_left
 ·
  rw [if_neg c3] at H
  have c3b0 : (t153 == 5) = false := beq_eq_false_iff_ne.mpr c3
  have c3b1 : (t153 != 5) = true := bne_iff_ne.mpr c3
  obtain rfl := Option.some.inj H
  go_enter Try.func56, Try.ntmps56
  go_wp2_with (first | ((with_reducible refine gate_callee (f := 27) rfl ?_); refine goesL_ (some 4) rfl rfl Try.func27 (by kernel_rfl) rfl #[.int .u64 a0] rfl ga ?_; (with_reducible refine (word_Kind.calls k a0 t153 _ A2.out).mono ?_); rintro e w' ⟨rfl, ⟨nd, rfl⟩⟩; refine ⟨_, rfl, ?_⟩))
  go_ret
  exact ⟨by first | rfl | (simp; done) | (simp [*]; done), by repeat (first | exact Drawn0.refl _ | apply Drawn0.step)⟩

 rw [if_pos c3] at H
 have c3b0 : (t153 == 5) = true := beq_iff_eq.mpr c3
 have c3b1 : (t153 != 5) = false := bne_eq_false_iff_eq.mpr c3
 clear c3
 obtain rfl := Option.some.inj H
 go_enter Try.func56, Try.ntmps56
 go_wp2_with (first | ((with_reducible refine gate_callee (f := 27) rfl ?_); refine goesL_ (some 4) rfl rfl Try.func27 (by kernel_rfl) rfl #[.int .u64 a0] rfl ga ?_; (with_reducible refine (word_Kind.calls k a0 t153 _ A2.out).mono ?_); rintro e w' ⟨rfl, ⟨nd, rfl⟩⟩; refine ⟨_, rfl, ?_⟩))
 go_ret
 exact ⟨by first | rfl | (simp; done) | (simp [*]; done), by repeat (first | exact Drawn0.refl _ | apply Drawn0.step)⟩
/-! ### soft_nan: function 45 -/
def soft_nan.l0 : Nat → Int → Bool → List Int → Int → Int → Option (Int × Int × Bool)
 | 0, _, _, _, _, _ => none
 | k + 1, x5, x6, x9, x10, x11 => if x11 < x10 then (if 0 ≤ x11 then (if x11 < (x9.length : Int) then ((word_Kind.f k (rd x9 x11)).bind fun t155 => (if t155 = 5 then ((word_Signals.f k (rd x9 x11)).bind fun t156 => (if t156 = true then (soft_nan.l0 k 16 true x9 x10 (wrap64 (x11 + 1))) else (soft_nan.l0 k x5 true x9 x10 (wrap64 (x11 + 1))))) else (soft_nan.l0 k x5 x6 x9 x10 (wrap64 (x11 + 1))))) else (none)) else (none)) else (some (9221120237041090560, x5, x6))
def soft_nan.f (k : Nat) (l0 : List Int) : Option (Int × Int × Bool) := soft_nan.l0 k 0 false l0 (l0.length : Int) 0
theorem soft_nan.mono_l : ∀ k, (∀ y0 y1 y2 y3 y4, LeO (soft_nan.l0 k y0 y1 y2 y3 y4) (soft_nan.l0 (k + 1) y0 y1 y2 y3 y4))
 | 0 => fun _ _ _ _ _ r h => by simp [soft_nan.l0] at h
 | k + 1 => by
  have ih0 := soft_nan.mono_l k
  ·
   intro y0 y1 y2 y3 y4
   unfold soft_nan.l0
   repeat' with_reducible first | apply ih0 | apply word_Kind.mono | apply word_Signals.mono | exact LeO.refl _ | exact LeO.none _ | refine LeO.ite ?_ ?_ | refine LeO.bind ?_ (fun _ => ?_)
theorem soft_nan.mono : ∀ a0 k, LeO (soft_nan.f k a0) (soft_nan.f (k + 1) a0) := by
 intro a0 k
 have ih0 := soft_nan.mono_l k
 unfold soft_nan.f
 repeat' with_reducible first | apply ih0 | apply word_Kind.mono | apply word_Signals.mono | exact LeO.refl _ | exact LeO.none _ | refine LeO.ite ?_ ?_ | refine LeO.bind ?_ (fun _ => ?_)
set_option maxHeartbeats 8000000 in
set_option maxRecDepth 100000 in
theorem soft_nan.calls (k : Nat) (A0 : Option Addr) (c0 : Nat) (l0 : List Int) (r1 : Int) (r2 : Int) (r3 : Bool) (w : World) (hr0 : Kd.C (Kd.int .u64) w A0 l0.length l0) (hc0 : l0.length ≤ c0) (h : soft_nan.f k l0 = some (r1, r2, r3)) :
  Calls Try.prog 45 #[.slice A0 l0.length c0] w fun e w' => e = .returned (.tuple #[.int .u64 r1, .int .u8 r2, .bool r3]) ∧ Drawn0 w w' := by
 have HR0 := Aside0.mk hr0
 have HC0 := Aside0.mk hc0
 clear hr0 hc0
 have H : (soft_nan.l0 k 0 false l0 (l0.length : Int) 0) = some (r1, r2, r3) := h
 clear h
 have H' := Aside0.mk H
 clear H
 go_enter Try.func45, Try.ntmps45
 go_wp2
 go_loopg [5, 6, 11] k (fun kq v5 v6 v11 w' => ∃ (x5_1 : Int) (x6_1 : Bool) (x11_1 : Int), v5 = .int .u8 x5_1 ∧ v6 = .bool x6_1 ∧ v11 = .int .i64 x11_1 ∧ Aside0 (soft_nan.l0 kq x5_1 x6_1 l0 (l0.length : Int) x11_1 = some (r1, r2, r3)) ∧ Aside0 (kq ≤ k) ∧ Drawn0 w w')
 case atStart => exact ⟨(0), (false), (0), (by first | rfl | (simp; done) | (simp [*]; done)), (by first | rfl | (simp; done) | (simp [*]; done)), (by first | rfl | (simp; done) | (simp [*]; done)), H', ⟨Nat.le_refl _⟩, by repeat (first | exact Drawn0.refl _ | apply Drawn0.step)⟩
 case round =>
  clear H'
  obtain ⟨x5_1, x6_1, x11_1, rfl, rfl, rfl, HA, HK1, ⟨m1, rfl⟩⟩ := hrel
  cases gk with
  | zero => exact absurd HA.out (by simp [soft_nan.l0])
  | succ k1 =>
   have H := HA.out
   clear HA
   simp only [soft_nan.l0] at H
   by_cases c2 : x11_1 < (l0.length : Int)
   rotate_left
   ·
    rw [if_neg c2] at H
    have c2b0 : decide (x11_1 < (l0.length : Int)) = false := decide_eq_false c2
    clear c2
    simp only [Option.some.injEq, Prod.mk.injEq] at H
    obtain ⟨rfl, rfl, rfl⟩ := H
    go_wp2
    go_ret3
    exact ⟨by first | rfl | (simp; done) | (simp [*]; done), by repeat (first | exact Drawn0.refl _ | apply Drawn0.step)⟩

   rw [if_pos c2] at H
   have c2b0 : decide (x11_1 < (l0.length : Int)) = true := decide_eq_true c2
   clear c2
   by_cases c3 : 0 ≤ x11_1
   rotate_left
   ·
    rw [if_neg c3] at H
    exact absurd H (by simp)
   rw [if_pos c3] at H
   have c3b0 : decide (0 ≤ x11_1) = true := decide_eq_true c3
   clear c3
   by_cases c4 : x11_1 < (l0.length : Int)
   rotate_left
   ·
    rw [if_neg c4] at H
    exact absurd H (by simp)
   rw [if_pos c4] at H
   have c4b0 : decide (x11_1 < (l0.length : Int)) = true := decide_eq_true c4
   clear c4
   obtain ⟨t155, A50, H⟩ := Option.bind_eq_some_iff.mp H
   (try dsimp -simprocs only at H)
   have A5 := Aside0.mk A50
   clear A50
   by_cases c6 : t155 = 5
   ·
    rw [if_pos c6] at H
    have c6b0 : (t155 == 5) = true := beq_iff_eq.mpr c6
    have c6b1 : (t155 != 5) = false := bne_eq_false_iff_eq.mpr c6
    clear c6
    obtain ⟨t156, A70, H⟩ := Option.bind_eq_some_iff.mp H
    (try dsimp -simprocs only at H)
    have A7 := Aside0.mk A70
    clear A70
    by_cases c8 : t156 = true
    ·
     subst c8
     rw [if_pos rfl] at H
     have H' := Aside0.mk H
     clear H
     have p154 : 0 ≤ (x11_1 : Int) := of_decide_eq_true (by first | (with_reducible assumption) | assumption)
     have q154 : x11_1 < (l0.length : Int) := of_decide_eq_true (by first | (with_reducible assumption) | assumption)
     obtain ⟨ad154, e154, hx154_0⟩ := Kd.at_int HR0.out x11_1 p154 q154
     cases e154
     replace p154 := eq_true p154
     replace q154 := eq_true q154
     go_wp2_with (first | ((with_reducible refine gate_callee (f := 27) rfl ?_); refine goesL_ (some 16) rfl rfl Try.func27 (by kernel_rfl) rfl #[.int .u64 (rd l0 x11_1)] rfl ga ?_; (with_reducible refine (word_Kind.calls k1 (rd l0 x11_1) t155 _ A5.out).mono ?_); rintro e w' ⟨rfl, ⟨nd, rfl⟩⟩; refine ⟨_, rfl, ?_⟩) | ((with_reducible refine gate_callee (f := 56) rfl ?_); refine goesL_ (some 19) rfl rfl Try.func56 (by kernel_rfl) rfl #[.int .u64 (rd l0 x11_1)] rfl ga ?_; (with_reducible refine (word_Signals.calls k1 (rd l0 x11_1) true _ A7.out).mono ?_); rintro e w' ⟨rfl, ⟨nd, rfl⟩⟩; refine ⟨_, rfl, ?_⟩))
     go_roundg k1
     case measure => have := HK1.out; omega
     case rel => exact ⟨(16), (true), (wrap64 (x11_1 + 1)), (by first | rfl | (simp; done) | (simp [*]; done)), (by first | rfl | (simp; done) | (simp [*]; done)), (by first | rfl | (simp; done) | (simp [*]; done)), H', ⟨by have := HK1.out; omega⟩, by repeat (first | exact Drawn0.refl _ | apply Drawn0.step)⟩
    ·
     replace c8 := Bool.eq_false_iff.mpr c8
     subst c8
     rw [if_neg (show ¬ (false = true) by decide)] at H
     have H' := Aside0.mk H
     clear H
     have p154 : 0 ≤ (x11_1 : Int) := of_decide_eq_true (by first | (with_reducible assumption) | assumption)
     have q154 : x11_1 < (l0.length : Int) := of_decide_eq_true (by first | (with_reducible assumption) | assumption)
     obtain ⟨ad154, e154, hx154_0⟩ := Kd.at_int HR0.out x11_1 p154 q154
     cases e154
     replace p154 := eq_true p154
     replace q154 := eq_true q154
     go_wp2_with (first | ((with_reducible refine gate_callee (f := 27) rfl ?_); refine goesL_ (some 16) rfl rfl Try.func27 (by kernel_rfl) rfl #[.int .u64 (rd l0 x11_1)] rfl ga ?_; (with_reducible refine (word_Kind.calls k1 (rd l0 x11_1) t155 _ A5.out).mono ?_); rintro e w' ⟨rfl, ⟨nd, rfl⟩⟩; refine ⟨_, rfl, ?_⟩) | ((with_reducible refine gate_callee (f := 56) rfl ?_); refine goesL_ (some 19) rfl rfl Try.func56 (by kernel_rfl) rfl #[.int .u64 (rd l0 x11_1)] rfl ga ?_; (with_reducible refine (word_Signals.calls k1 (rd l0 x11_1) false _ A7.out).mono ?_); rintro e w' ⟨rfl, ⟨nd, rfl⟩⟩; refine ⟨_, rfl, ?_⟩))
     go_roundg k1
     case measure => have := HK1.out; omega
     case rel => exact ⟨(x5_1), (true), (wrap64 (x11_1 + 1)), (by first | rfl | (simp; done) | (simp [*]; done)), (by first | rfl | (simp; done) | (simp [*]; done)), (by first | rfl | (simp; done) | (simp [*]; done)), H', ⟨by have := HK1.out; omega⟩, by repeat (first | exact Drawn0.refl _ | apply Drawn0.step)⟩
   ·
    rw [if_neg c6] at H
    have c6b0 : (t155 == 5) = false := beq_eq_false_iff_ne.mpr c6
    have c6b1 : (t155 != 5) = true := bne_iff_ne.mpr c6
    have H' := Aside0.mk H
    clear H
    have p154 : 0 ≤ (x11_1 : Int) := of_decide_eq_true (by first | (with_reducible assumption) | assumption)
    have q154 : x11_1 < (l0.length : Int) := of_decide_eq_true (by first | (with_reducible assumption) | assumption)
    obtain ⟨ad154, e154, hx154_0⟩ := Kd.at_int HR0.out x11_1 p154 q154
    cases e154
    replace p154 := eq_true p154
    replace q154 := eq_true q154
    go_wp2_with (first | ((with_reducible refine gate_callee (f := 27) rfl ?_); refine goesL_ (some 16) rfl rfl Try.func27 (by kernel_rfl) rfl #[.int .u64 (rd l0 x11_1)] rfl ga ?_; (with_reducible refine (word_Kind.calls k1 (rd l0 x11_1) t155 _ A5.out).mono ?_); rintro e w' ⟨rfl, ⟨nd, rfl⟩⟩; refine ⟨_, rfl, ?_⟩))
    go_roundg k1
    case measure => have := HK1.out; omega
    case rel => exact ⟨(x5_1), (x6_1), (wrap64 (x11_1 + 1)), (by first | rfl | (simp; done) | (simp [*]; done)), (by first | rfl | (simp; done) | (simp [*]; done)), (by first | rfl | (simp; done) | (simp [*]; done)), H', ⟨by have := HK1.out; omega⟩, by repeat (first | exact Drawn0.refl _ | apply Drawn0.step)⟩
/-! ### word_Parts: function 47 -/
def word_Parts.f (k : Nat) (a0 : Int) : Option (Int × Int) := (word_Kind.f k a0).bind fun t157 => (if t157 = 2 then ((word_Frac.f a0).bind fun t158 => (some (t158, (-1074)))) else (if t157 = 3 then ((word_Frac.f a0).bind fun t159 => ((word_Exp.f a0).bind fun t160 => (some (Go.bits .or .u64 t159 4503599627370496, wrap64 (t160 - 1075))))) else (some (0, 0))))
theorem word_Parts.mono : ∀ a0 k, LeO (word_Parts.f k a0) (word_Parts.f (k + 1) a0) := by
 intro a0 k
 unfold word_Parts.f
 repeat' with_reducible first | apply word_Kind.mono | exact LeO.refl _ | exact LeO.none _ | refine LeO.ite ?_ ?_ | refine LeO.bind ?_ (fun _ => ?_)
set_option maxHeartbeats 8000000 in
set_option maxRecDepth 100000 in
theorem word_Parts.calls (k : Nat) (a0 : Int) (r1 : Int) (r2 : Int) (w : World) (h : word_Parts.f k a0 = some (r1, r2)) :
  Calls Try.prog 47 #[.int .u64 a0] w fun e w' => e = .returned (.tuple #[.int .u64 r1, .int .i64 r2]) ∧ Drawn0 w w' := by
 have H : ((word_Kind.f k a0).bind fun t157 => (if t157 = 2 then ((word_Frac.f a0).bind fun t158 => (some (t158, (-1074)))) else (if t157 = 3 then ((word_Frac.f a0).bind fun t159 => ((word_Exp.f a0).bind fun t160 => (some (Go.bits .or .u64 t159 4503599627370496, wrap64 (t160 - 1075))))) else (some (0, 0))))) = some (r1, r2) := h
 clear h
 obtain ⟨t157, A20, H⟩ := Option.bind_eq_some_iff.mp H
 (try dsimp -simprocs only at H)
 have A2 := Aside0.mk A20
 clear A20
 by_cases c3 : t157 = 2
 ·
  rw [if_pos c3] at H
  have c3b0 : (t157 == 2) = true := beq_iff_eq.mpr c3
  have c3b1 : (t157 != 2) = false := bne_eq_false_iff_eq.mpr c3
  clear c3
  obtain ⟨t158, A40, H⟩ := Option.bind_eq_some_iff.mp H
  (try dsimp -simprocs only at H)
  have A4 := Aside0.mk A40
  clear A40
  simp only [Option.some.injEq, Prod.mk.injEq] at H
  obtain ⟨rfl, rfl⟩ := H
  go_enter Try.func47, Try.ntmps47
  go_wp2_with (first | ((with_reducible refine gate_callee (f := 27) rfl ?_); refine goesL_ (some 5) rfl rfl Try.func27 (by kernel_rfl) rfl #[.int .u64 a0] rfl ga ?_; (with_reducible refine (word_Kind.calls k a0 t157 _ A2.out).mono ?_); rintro e w' ⟨rfl, ⟨nd, rfl⟩⟩; refine ⟨_, rfl, ?_⟩) | ((with_reducible refine gate_callee (f := 41) rfl ?_); refine goesL_ (some 9) rfl rfl Try.func41 (by kernel_rfl) rfl #[.int .u64 a0] rfl ga ?_; (with_reducible refine (word_Frac.calls a0 t158 _ A4.out).mono ?_); rintro e w' ⟨rfl, ⟨nd, rfl⟩⟩; refine ⟨_, rfl, ?_⟩))
  go_ret2
  exact ⟨by first | rfl | (simp; done) | (simp [*]; done), by repeat (first | exact Drawn0.refl _ | apply Drawn0.step)⟩
 ·
  rw [if_neg c3] at H
  have c3b0 : (t157 == 2) = false := beq_eq_false_iff_ne.mpr c3
  have c3b1 : (t157 != 2) = true := bne_iff_ne.mpr c3
  by_cases c5 : t157 = 3
  rotate_left
  ·
   rw [if_neg c5] at H
   have c5b0 : (t157 == 3) = false := beq_eq_false_iff_ne.mpr c5
   have c5b1 : (t157 != 3) = true := bne_iff_ne.mpr c5
   simp only [Option.some.injEq, Prod.mk.injEq] at H
   obtain ⟨rfl, rfl⟩ := H
   go_enter Try.func47, Try.ntmps47
   go_wp2_with (first | ((with_reducible refine gate_callee (f := 27) rfl ?_); refine goesL_ (some 5) rfl rfl Try.func27 (by kernel_rfl) rfl #[.int .u64 a0] rfl ga ?_; (with_reducible refine (word_Kind.calls k a0 t157 _ A2.out).mono ?_); rintro e w' ⟨rfl, ⟨nd, rfl⟩⟩; refine ⟨_, rfl, ?_⟩))
   go_ret2
   exact ⟨by first | rfl | (simp; done) | (simp [*]; done), by repeat (first | exact Drawn0.refl _ | apply Drawn0.step)⟩

  rw [if_pos c5] at H
  have c5b0 : (t157 == 3) = true := beq_iff_eq.mpr c5
  have c5b1 : (t157 != 3) = false := bne_eq_false_iff_eq.mpr c5
  clear c5
  obtain ⟨t159, A60, H⟩ := Option.bind_eq_some_iff.mp H
  (try dsimp -simprocs only at H)
  have A6 := Aside0.mk A60
  clear A60
  obtain ⟨t160, A70, H⟩ := Option.bind_eq_some_iff.mp H
  (try dsimp -simprocs only at H)
  have A7 := Aside0.mk A70
  clear A70
  simp only [Option.some.injEq, Prod.mk.injEq] at H
  obtain ⟨rfl, rfl⟩ := H
  go_enter Try.func47, Try.ntmps47
  go_wp2_with (first | ((with_reducible refine gate_callee (f := 27) rfl ?_); refine goesL_ (some 5) rfl rfl Try.func27 (by kernel_rfl) rfl #[.int .u64 a0] rfl ga ?_; (with_reducible refine (word_Kind.calls k a0 t157 _ A2.out).mono ?_); rintro e w' ⟨rfl, ⟨nd, rfl⟩⟩; refine ⟨_, rfl, ?_⟩) | ((with_reducible refine gate_callee (f := 41) rfl ?_); refine goesL_ (some 13) rfl rfl Try.func41 (by kernel_rfl) rfl #[.int .u64 a0] rfl ga ?_; (with_reducible refine (word_Frac.calls a0 t159 _ A6.out).mono ?_); rintro e w' ⟨rfl, ⟨nd, rfl⟩⟩; refine ⟨_, rfl, ?_⟩) | ((with_reducible refine gate_callee (f := 22) rfl ?_); refine goesL_ (some 16) rfl rfl Try.func22 (by kernel_rfl) rfl #[.int .u64 a0] rfl ga ?_; (with_reducible refine (word_Exp.calls a0 t160 _ A7.out).mono ?_); rintro e w' ⟨rfl, ⟨nd, rfl⟩⟩; refine ⟨_, rfl, ?_⟩))
  go_ret2
  exact ⟨by first | rfl | (simp; done) | (simp [*]; done), by repeat (first | exact Drawn0.refl _ | apply Drawn0.step)⟩
/-! ### bits_Sub64: function 60 -/
def sub64Entry_ : Array Value → Sem Value := fun args => do
 let (x, y, b) ← Extern.MathBitsCarry.three "Sub64" args
 pure (Extern.MathBitsCarry.pair ((x + Extern.MathBitsCarry.m64 - y - b) % Extern.MathBitsCarry.m64) (if x < y + b then 1 else 0))
theorem run_sub64_ {P : Program} (x y b : Nat) (hb : b ≤ 1) (w : World) :
  (sub64Entry_ #[.int .u64 x, .int .u64 y, .int .u64 b]).run P w =
   .ok (.tuple #[.int .u64 (((x + 18446744073709551616 - y - b) % 18446744073709551616 : Nat) : Int), .int .u64 ((if x < y + b then 1 else 0 : Nat) : Int)]) w := by
 have : b = 0 ∨ b = 1 := by omega
 rcases this with rfl | rfl <;> rfl
def bits_Sub64.f (a0 a1 a2 : Int) : Option (Int × Int) := if 0 ≤ a0 ∧ 0 ≤ a1 ∧ a1 < 18446744073709551616 ∧ 0 ≤ a2 ∧ a2 ≤ 1 then (some ((a0 - a1 - a2) % 18446744073709551616, if a0 < a1 + a2 then 1 else 0)) else none
theorem bits_Sub64.run (a0 a1 a2 : Int) (r1 r2 : Int) (w : World) (h : bits_Sub64.f a0 a1 a2 = some (r1, r2)) :
  (callFunc 60 #[.int .u64 a0, .int .u64 a1, .int .u64 a2]).run Try.prog w = .ok (.value (.tuple #[.int .u64 r1, .int .u64 r2])) w := by
 unfold bits_Sub64.f at h
 by_cases hc : 0 ≤ a0 ∧ 0 ≤ a1 ∧ a1 < 18446744073709551616 ∧ 0 ≤ a2 ∧ a2 ≤ 1
 rotate_left
 ·
  rw [if_neg hc] at h; cases h

 rw [if_pos hc] at h
 obtain ⟨h0, h1, h1', h2, h3⟩ := hc
 simp only [Option.some.injEq, Prod.mk.injEq] at h
 obtain ⟨rfl, rfl⟩ := h
 obtain ⟨x, rfl⟩ := Int.eq_ofNat_of_zero_le h0
 obtain ⟨y, rfl⟩ := Int.eq_ofNat_of_zero_le h1
 obtain ⟨b, rfl⟩ := Int.eq_ofNat_of_zero_le h2
 have e1 : (((x + 18446744073709551616 - y - b) % 18446744073709551616 : Nat) : Int) = ((x : Int) - y - b) % 18446744073709551616 := by omega
 have e2 : ((if x < y + b then 1 else 0 : Nat) : Int) = if (x : Int) < y + b then 1 else 0 := by split <;> split <;> omega
 rw [← e1, ← e2]
 rw [run_callFunc_extern Try.func60 (by kernel_rfl) (by kernel_rfl) (by kernel_rfl) (e := sub64Entry_) (by kernel_rfl), run_sub64_ x y b (by omega)]
 rfl
/-! ### wide_Wide_Sub: function 55 -/
def wide_Wide_Sub.f (a0_0 : Int) (a0_1 : Int) (a1_0 : Int) (a1_1 : Int) : Option (Int × Int × Bool) := (bits_Sub64.f a0_1 a1_1 0).bind fun bt164 => ((bits_Sub64.f a0_0 a1_0 bt164.2).bind fun bt166 => (some (bt166.1, bt164.1, (bt166.2 == 1))))
set_option maxHeartbeats 8000000 in
set_option maxRecDepth 100000 in
theorem wide_Wide_Sub.calls (a0_0 : Int) (a0_1 : Int) (a1_0 : Int) (a1_1 : Int) (r1 : Int) (r2 : Int) (r3 : Bool) (w : World) (h : wide_Wide_Sub.f a0_0 a0_1 a1_0 a1_1 = some (r1, r2, r3)) :
  Calls Try.prog 55 #[.agg #[.int .u64 a0_0, .int .u64 a0_1], .agg #[.int .u64 a1_0, .int .u64 a1_1]] w fun e w' => e = .returned (.tuple #[.agg #[.int .u64 r1, .int .u64 r2], .bool r3]) ∧ Below w.heap.size w w' := by
 have hu67 := Try.underlying67
 have HB := Aside0.mk (Below.refl w.heap.size w)
 have H : ((bits_Sub64.f a0_1 a1_1 0).bind fun bt164 => ((bits_Sub64.f a0_0 a1_0 bt164.2).bind fun bt166 => (some (bt166.1, bt164.1, (bt166.2 == 1))))) = some (r1, r2, r3) := h
 clear h
 obtain ⟨⟨t164, t165⟩, A30, H⟩ := Option.bind_eq_some_iff.mp H
 (try dsimp -simprocs only at H)
 have A3 := Aside0.mk A30
 clear A30
 obtain ⟨⟨t166, t167⟩, A40, H⟩ := Option.bind_eq_some_iff.mp H
 (try dsimp -simprocs only at H)
 have A4 := Aside0.mk A40
 clear A40
 simp only [Option.some.injEq, Prod.mk.injEq] at H
 obtain ⟨rfl, rfl, rfl⟩ := H
 go_enter Try.func55, Try.ntmps55
 go_wp2_with (first | ((with_reducible refine gate_dst (N := 2) rfl ?_); refine gbox (N := 2) (cs := #[.int .u64 a0_0, .int .u64 a0_1]) (t := 67) ?_; intro gb161 hg w5 hbox hb; refine ax4 (below_step bel hb) hbox ((ge hg : w.heap.size ≤ gb161)) ((ge hg : w.heap.size ≤ gb161)) ?_; clear HB; intro HB BK161 GW161 GE161; clear hb hbox hg) | ((with_reducible refine gate_dst (N := 3) rfl ?_); refine gbox (N := 3) (cs := #[.int .u64 a1_0, .int .u64 a1_1]) (t := 67) ?_; intro gb162 hg w6 hbox hb; refine ax7 (bb BK161 hb) (below_step bes hb) hbox ((ge hg : w.heap.size ≤ gb162)) ((ge hg : w.heap.size ≤ gb162)) (nl hg BK161) (ng hg BK161) ?_; clear BK161; clear HB; intro BK161 HB BK162 GW162 GE162 NB161_162 NB162_161; clear hb hbox hg) | ((with_reducible refine gate_dst (N := 4) rfl ?_); refine gbox (N := 4) (cs := #[.int .u64 0, .int .u64 0]) (t := 67) ?_; intro gb163 hg w7 hbox hb; refine ax10 (bb BK161 hb) (bb BK162 hb) (below_step bes hb) hbox ((ge hg : w.heap.size ≤ gb163)) ((ge hg : w.heap.size ≤ gb163)) (nl hg BK161) (ng hg BK161) (nl hg BK162) (ng hg BK162) ?_; clear BK161; clear BK162; clear HB; intro BK161 BK162 HB BK163 GW163 GE163 NB161_163 NB163_161 NB162_163 NB163_162; clear hb hbox hg; have hnb8 := NB161_162.out; have hnc8 := NB162_161.out; have hnb9 := NB161_163.out; have hnc9 := NB163_161.out; have hcz10_0 := bc BK161 0 rfl; have hcz10_1 := bc BK161 1 rfl; have hfz10_0 := blk_frozen BK161.out 0; have hfz10_1 := blk_frozen BK161.out 1; have hnb11 := NB162_163.out; have hnc11 := NB163_162.out; have hcz12_0 := bc BK162 0 rfl; have hcz12_1 := bc BK162 1 rfl; have hfz12_0 := blk_frozen BK162.out 0; have hfz12_1 := blk_frozen BK162.out 1) | ((with_reducible refine gate_callee (f := 60) rfl ?_); refine goesX_ (some 14) rfl rfl rfl #[.int .u64 a0_1, .int .u64 a1_1, .int .u64 0] (by (try simp only [List.map_toArray, List.map_cons, List.map_nil]); first | done | rfl) _ (bits_Sub64.run a0_1 a1_1 0 t164 t165 _ A3.out) ?_) | ((with_reducible refine gate_callee (f := 60) rfl ?_); refine goesX_ (some 23) rfl rfl rfl #[.int .u64 a0_0, .int .u64 a1_0, .int .u64 t165] (by (try simp only [List.map_toArray, List.map_cons, List.map_nil]); first | done | rfl) _ (bits_Sub64.run a0_0 a1_0 t165 t166 t167 _ A4.out) ?_; have hcz13_0 := bc BK163 0 rfl; have hcz13_1 := bc BK163 1 rfl; have hfz13_0 := blk_frozen BK163.out 0; have hfz13_1 := blk_frozen BK163.out 1))
 refine bodyPost_ret (results_ct rfl _ _ gb163 67 #[.int .u64 t166, .int .u64 t164] (0, 0) _ rfl (bp BK163) Try.underlying67 rfl (by kernel_rfl)) rfl ?_
 exact ⟨er, bes⟩

end Go.Proofs.Ytnjobojkoaknpaa.F
