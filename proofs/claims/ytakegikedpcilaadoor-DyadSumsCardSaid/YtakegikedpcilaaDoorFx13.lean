-- Written by a program of this seat's session (mkprint), out of the translation.
import Derived.Test.YtakegikedpcilaaDoorShort
import Derived.Test.YtakegikedpcilaaDoorFx0
import Derived.Test.YtakegikedpcilaaDoorFx11
namespace Go.Proofs.YtakegikedpcilaaDoor.F
open Go.RowKit Go.Proofs.YtakegikedpcilaaDoorW.PrintWords Go.Proofs.YtakegikedpcilaaDoorW.PrintLast Go.Proofs.YtakegikedpcilaaDoorW.PrintMore
attribute [local go_sem] max2_int min2_int max_two min_two max_three min_three max_four min_four   -- for this text's walks alone
set_option linter.unusedVariables false
set_option linter.unusedSimpArgs false

/-! ### gimbalref04_Parts: function 50 -/
def gimbalref04_Parts.f (a0 : Int) : Option (Bool × Int × Int) := some (((IntKind.u64.wrap (Int.tdiv a0 9223372036854775808)) == 1), wrap64 (Int.tmod (IntKind.u64.wrap (Int.tdiv a0 4503599627370496)) 2048), Int.tmod a0 4503599627370496)
set_option maxHeartbeats 8000000 in
set_option maxRecDepth 100000 in
theorem gimbalref04_Parts.calls (a0 : Int) (r1 : Bool) (r2 : Int) (r3 : Int) (w : World) (h : gimbalref04_Parts.f a0 = some (r1, r2, r3)) :
  Calls Tryd.prog 50 #[.int .u64 a0] w fun e w' => e = .returned (.tuple #[.bool r1, .int .i64 r2, .int .u64 r3]) ∧ Drawn0 w w' := by
 have H : (some (((IntKind.u64.wrap (Int.tdiv a0 9223372036854775808)) == 1), wrap64 (Int.tmod (IntKind.u64.wrap (Int.tdiv a0 4503599627370496)) 2048), Int.tmod a0 4503599627370496)) = some (r1, r2, r3) := h
 clear h
 simp only [Option.some.injEq, Prod.mk.injEq] at H
 obtain ⟨rfl, rfl, rfl⟩ := H
 go_enter Tryd.func50, Tryd.ntmps50
 go_wp2
 go_ret3
 exact ⟨by first | rfl | (simp; done) | (simp [*]; done), by repeat (first | exact Drawn0.refl _ | apply Drawn0.step)⟩

/-! ### gimbalref04_IsNan: function 67 -/
def gimbalref04_IsNan.f (a0 : Int) : Option (Bool) := (gimbalref04_Parts.f a0).bind fun bt382 => (if bt382.2.1 = 2047 then (some (decide (bt382.2.2 > 0))) else (some false))
set_option maxHeartbeats 8000000 in
set_option maxRecDepth 100000 in
theorem gimbalref04_IsNan.calls (a0 : Int) (r : Bool) (w : World) (h : gimbalref04_IsNan.f a0 = some r) :
  Calls Tryd.prog 67 #[.int .u64 a0] w fun e w' => e = .returned (.bool r) ∧ Drawn0 w w' := by
 have H : ((gimbalref04_Parts.f a0).bind fun bt382 => (if bt382.2.1 = 2047 then (some (decide (bt382.2.2 > 0))) else (some false))) = some r := h
 clear h
 obtain ⟨⟨t382, t383, t384⟩, A20, H⟩ := Option.bind_eq_some_iff.mp H
 (try dsimp -simprocs only at H)
 have A2 := Aside0.mk A20
 clear A20
 by_cases c3 : t383 = 2047
 rotate_left
 ·
  rw [if_neg c3] at H
  have c3b0 : (t383 == 2047) = false := beq_eq_false_iff_ne.mpr c3
  have c3b1 : (t383 != 2047) = true := bne_iff_ne.mpr c3
  obtain rfl := Option.some.inj H
  go_enter Tryd.func67, Tryd.ntmps67
  go_wp2_with (first | ((with_reducible refine gate_callee (f := 50) rfl ?_); refine goesL_ (some 8) rfl rfl Tryd.func50 (by kernel_rfl) rfl #[.int .u64 a0] rfl ga ?_; (with_reducible refine (gimbalref04_Parts.calls a0 t382 t383 t384 _ A2.out).mono ?_); rintro e w' ⟨rfl, ⟨nd, rfl⟩⟩; refine ⟨_, rfl, ?_⟩))
  go_ret
  exact ⟨by first | rfl | (simp; done) | (simp [*]; done), by repeat (first | exact Drawn0.refl _ | apply Drawn0.step)⟩

 rw [if_pos c3] at H
 have c3b0 : (t383 == 2047) = true := beq_iff_eq.mpr c3
 have c3b1 : (t383 != 2047) = false := bne_eq_false_iff_eq.mpr c3
 clear c3
 obtain rfl := Option.some.inj H
 go_enter Tryd.func67, Tryd.ntmps67
 go_wp2_with (first | ((with_reducible refine gate_callee (f := 50) rfl ?_); refine goesL_ (some 8) rfl rfl Tryd.func50 (by kernel_rfl) rfl #[.int .u64 a0] rfl ga ?_; (with_reducible refine (gimbalref04_Parts.calls a0 t382 t383 t384 _ A2.out).mono ?_); rintro e w' ⟨rfl, ⟨nd, rfl⟩⟩; refine ⟨_, rfl, ?_⟩))
 go_ret
 exact ⟨by first | rfl | (simp; done) | (simp [*]; done), by repeat (first | exact Drawn0.refl _ | apply Drawn0.step)⟩
/-! ### gimbalref04_Nans: function 40 -/
def gimbalref04_Nans.l0 : Nat → Int → Bool → List Int → Int → Int → Option (Int × Bool)
 | 0, _, _, _, _, _ => none
 | k + 1, x4, x5, x11, x12, x13 => if x13 < x12 then (if 0 ≤ x13 then (if x13 < (x11.length : Int) then ((gimbalref04_IsNan.f (rd x11 x13)).bind fun t386 => (if t386 = true then ((gimbalref04_Parts.f (rd x11 x13)).bind fun bt387 => (if bt387.2.2 < 2251799813685248 then (gimbalref04_Nans.l0 k 16 true x11 x12 (wrap64 (x13 + 1))) else (gimbalref04_Nans.l0 k x4 true x11 x12 (wrap64 (x13 + 1))))) else (gimbalref04_Nans.l0 k x4 x5 x11 x12 (wrap64 (x13 + 1))))) else (none)) else (none)) else (some (x4, x5))
def gimbalref04_Nans.f (k : Nat) (l0 : List Int) : Option (Int × Bool) := gimbalref04_Nans.l0 k 0 false l0 (l0.length : Int) 0
theorem gimbalref04_Nans.mono_l : ∀ k, (∀ y0 y1 y2 y3 y4, LeO (gimbalref04_Nans.l0 k y0 y1 y2 y3 y4) (gimbalref04_Nans.l0 (k + 1) y0 y1 y2 y3 y4))
 | 0 => fun _ _ _ _ _ r h => by simp [gimbalref04_Nans.l0] at h
 | k + 1 => by
  have ih0 := gimbalref04_Nans.mono_l k
  ·
   intro y0 y1 y2 y3 y4
   unfold gimbalref04_Nans.l0
   repeat' with_reducible first | apply ih0 | exact LeO.refl _ | exact LeO.none _ | refine LeO.ite ?_ ?_ | refine LeO.bind ?_ (fun _ => ?_)
theorem gimbalref04_Nans.mono : ∀ a0 k, LeO (gimbalref04_Nans.f k a0) (gimbalref04_Nans.f (k + 1) a0) := by
 intro a0 k
 have ih0 := gimbalref04_Nans.mono_l k
 unfold gimbalref04_Nans.f
 repeat' with_reducible first | apply ih0 | exact LeO.refl _ | exact LeO.none _ | refine LeO.ite ?_ ?_ | refine LeO.bind ?_ (fun _ => ?_)
set_option maxHeartbeats 8000000 in
set_option maxRecDepth 100000 in
theorem gimbalref04_Nans.calls (k : Nat) (A0 : Option Addr) (c0 : Nat) (l0 : List Int) (r1 : Int) (r2 : Bool) (w : World) (hr0 : Kd.C (Kd.int .u64) w A0 l0.length l0) (hc0 : l0.length ≤ c0) (h : gimbalref04_Nans.f k l0 = some (r1, r2)) :
  Calls Tryd.prog 40 #[.slice A0 l0.length c0] w fun e w' => e = .returned (.tuple #[.int .i64 r1, .bool r2]) ∧ Drawn0 w w' := by
 have HR0 := Aside0.mk hr0
 have HC0 := Aside0.mk hc0
 clear hr0 hc0
 have H : (gimbalref04_Nans.l0 k 0 false l0 (l0.length : Int) 0) = some (r1, r2) := h
 clear h
 have H' := Aside0.mk H
 clear H
 go_enter Tryd.func40, Tryd.ntmps40
 go_wp2
 go_loopg [4, 5, 13] k (fun kq v4 v5 v13 w' => ∃ (x4_1 : Int) (x5_1 : Bool) (x13_1 : Int), v4 = .int .i64 x4_1 ∧ v5 = .bool x5_1 ∧ v13 = .int .i64 x13_1 ∧ Aside0 (gimbalref04_Nans.l0 kq x4_1 x5_1 l0 (l0.length : Int) x13_1 = some (r1, r2)) ∧ Aside0 (kq ≤ k) ∧ Drawn0 w w')
 case atStart => exact ⟨(0), (false), (0), (by first | rfl | (simp; done) | (simp [*]; done)), (by first | rfl | (simp; done) | (simp [*]; done)), (by first | rfl | (simp; done) | (simp [*]; done)), H', ⟨Nat.le_refl _⟩, by repeat (first | exact Drawn0.refl _ | apply Drawn0.step)⟩
 case round =>
  clear H'
  obtain ⟨x4_1, x5_1, x13_1, rfl, rfl, rfl, HA, HK1, ⟨m1, rfl⟩⟩ := hrel
  cases gk with
  | zero => exact absurd HA.out (by simp [gimbalref04_Nans.l0])
  | succ k1 =>
   have H := HA.out
   clear HA
   simp only [gimbalref04_Nans.l0] at H
   by_cases c2 : x13_1 < (l0.length : Int)
   rotate_left
   ·
    rw [if_neg c2] at H
    have c2b0 : decide (x13_1 < (l0.length : Int)) = false := decide_eq_false c2
    clear c2
    simp only [Option.some.injEq, Prod.mk.injEq] at H
    obtain ⟨rfl, rfl⟩ := H
    go_wp2
    go_ret2
    exact ⟨by first | rfl | (simp; done) | (simp [*]; done), by repeat (first | exact Drawn0.refl _ | apply Drawn0.step)⟩

   rw [if_pos c2] at H
   have c2b0 : decide (x13_1 < (l0.length : Int)) = true := decide_eq_true c2
   clear c2
   by_cases c3 : 0 ≤ x13_1
   rotate_left
   ·
    rw [if_neg c3] at H
    exact absurd H (by simp)
   rw [if_pos c3] at H
   have c3b0 : decide (0 ≤ x13_1) = true := decide_eq_true c3
   clear c3
   by_cases c4 : x13_1 < (l0.length : Int)
   rotate_left
   ·
    rw [if_neg c4] at H
    exact absurd H (by simp)
   rw [if_pos c4] at H
   have c4b0 : decide (x13_1 < (l0.length : Int)) = true := decide_eq_true c4
   clear c4
   obtain ⟨t386, A50, H⟩ := Option.bind_eq_some_iff.mp H
   (try dsimp -simprocs only at H)
   have A5 := Aside0.mk A50
   clear A50
   by_cases c6 : t386 = true
   ·
    subst c6
    rw [if_pos rfl] at H
    obtain ⟨⟨t387, t388, t389⟩, A70, H⟩ := Option.bind_eq_some_iff.mp H
    (try dsimp -simprocs only at H)
    have A7 := Aside0.mk A70
    clear A70
    by_cases c8 : t389 < 2251799813685248
    ·
     rw [if_pos c8] at H
     have c8b0 : decide (t389 < 2251799813685248) = true := decide_eq_true c8
     clear c8
     have H' := Aside0.mk H
     clear H
     have p385 : 0 ≤ (x13_1 : Int) := of_decide_eq_true (by first | (with_reducible assumption) | assumption)
     have q385 : x13_1 < (l0.length : Int) := of_decide_eq_true (by first | (with_reducible assumption) | assumption)
     obtain ⟨ad385, e385, hx385_0⟩ := Kd.at_int HR0.out x13_1 p385 q385
     cases e385
     replace p385 := eq_true p385
     replace q385 := eq_true q385
     go_wp2_with (first | ((with_reducible refine gate_callee (f := 67) rfl ?_); refine goesL_ (some 18) rfl rfl Tryd.func67 (by kernel_rfl) rfl #[.int .u64 (rd l0 x13_1)] rfl ga ?_; (with_reducible refine (gimbalref04_IsNan.calls (rd l0 x13_1) true _ A5.out).mono ?_); rintro e w' ⟨rfl, ⟨nd, rfl⟩⟩; refine ⟨_, rfl, ?_⟩) | ((with_reducible refine gate_callee (f := 50) rfl ?_); refine goesL_ (some 21) rfl rfl Tryd.func50 (by kernel_rfl) rfl #[.int .u64 (rd l0 x13_1)] rfl ga ?_; (with_reducible refine (gimbalref04_Parts.calls (rd l0 x13_1) t387 t388 t389 _ A7.out).mono ?_); rintro e w' ⟨rfl, ⟨nd, rfl⟩⟩; refine ⟨_, rfl, ?_⟩))
     go_roundg k1
     case measure => have := HK1.out; omega
     case rel => exact ⟨(16), (true), (wrap64 (x13_1 + 1)), (by first | rfl | (simp; done) | (simp [*]; done)), (by first | rfl | (simp; done) | (simp [*]; done)), (by first | rfl | (simp; done) | (simp [*]; done)), H', ⟨by have := HK1.out; omega⟩, by repeat (first | exact Drawn0.refl _ | apply Drawn0.step)⟩
    ·
     rw [if_neg c8] at H
     have c8b0 : decide (t389 < 2251799813685248) = false := decide_eq_false c8
     clear c8
     have H' := Aside0.mk H
     clear H
     have p385 : 0 ≤ (x13_1 : Int) := of_decide_eq_true (by first | (with_reducible assumption) | assumption)
     have q385 : x13_1 < (l0.length : Int) := of_decide_eq_true (by first | (with_reducible assumption) | assumption)
     obtain ⟨ad385, e385, hx385_0⟩ := Kd.at_int HR0.out x13_1 p385 q385
     cases e385
     replace p385 := eq_true p385
     replace q385 := eq_true q385
     go_wp2_with (first | ((with_reducible refine gate_callee (f := 67) rfl ?_); refine goesL_ (some 18) rfl rfl Tryd.func67 (by kernel_rfl) rfl #[.int .u64 (rd l0 x13_1)] rfl ga ?_; (with_reducible refine (gimbalref04_IsNan.calls (rd l0 x13_1) true _ A5.out).mono ?_); rintro e w' ⟨rfl, ⟨nd, rfl⟩⟩; refine ⟨_, rfl, ?_⟩) | ((with_reducible refine gate_callee (f := 50) rfl ?_); refine goesL_ (some 21) rfl rfl Tryd.func50 (by kernel_rfl) rfl #[.int .u64 (rd l0 x13_1)] rfl ga ?_; (with_reducible refine (gimbalref04_Parts.calls (rd l0 x13_1) t387 t388 t389 _ A7.out).mono ?_); rintro e w' ⟨rfl, ⟨nd, rfl⟩⟩; refine ⟨_, rfl, ?_⟩))
     go_roundg k1
     case measure => have := HK1.out; omega
     case rel => exact ⟨(x4_1), (true), (wrap64 (x13_1 + 1)), (by first | rfl | (simp; done) | (simp [*]; done)), (by first | rfl | (simp; done) | (simp [*]; done)), (by first | rfl | (simp; done) | (simp [*]; done)), H', ⟨by have := HK1.out; omega⟩, by repeat (first | exact Drawn0.refl _ | apply Drawn0.step)⟩
   ·
    replace c6 := Bool.eq_false_iff.mpr c6
    subst c6
    rw [if_neg (show ¬ (false = true) by decide)] at H
    have H' := Aside0.mk H
    clear H
    have p385 : 0 ≤ (x13_1 : Int) := of_decide_eq_true (by first | (with_reducible assumption) | assumption)
    have q385 : x13_1 < (l0.length : Int) := of_decide_eq_true (by first | (with_reducible assumption) | assumption)
    obtain ⟨ad385, e385, hx385_0⟩ := Kd.at_int HR0.out x13_1 p385 q385
    cases e385
    replace p385 := eq_true p385
    replace q385 := eq_true q385
    go_wp2_with (first | ((with_reducible refine gate_callee (f := 67) rfl ?_); refine goesL_ (some 18) rfl rfl Tryd.func67 (by kernel_rfl) rfl #[.int .u64 (rd l0 x13_1)] rfl ga ?_; (with_reducible refine (gimbalref04_IsNan.calls (rd l0 x13_1) false _ A5.out).mono ?_); rintro e w' ⟨rfl, ⟨nd, rfl⟩⟩; refine ⟨_, rfl, ?_⟩))
    go_roundg k1
    case measure => have := HK1.out; omega
    case rel => exact ⟨(x4_1), (x5_1), (wrap64 (x13_1 + 1)), (by first | rfl | (simp; done) | (simp [*]; done)), (by first | rfl | (simp; done) | (simp [*]; done)), (by first | rfl | (simp; done) | (simp [*]; done)), H', ⟨by have := HK1.out; omega⟩, by repeat (first | exact Drawn0.refl _ | apply Drawn0.step)⟩
/-! ### gimbalref04_IsInf: function 41 -/
def gimbalref04_IsInf.f (a0 : Int) : Option (Bool) := (gimbalref04_Parts.f a0).bind fun bt390 => (if bt390.2.1 = 2047 then (some (bt390.2.2 == 0)) else (some false))
set_option maxHeartbeats 8000000 in
set_option maxRecDepth 100000 in
theorem gimbalref04_IsInf.calls (a0 : Int) (r : Bool) (w : World) (h : gimbalref04_IsInf.f a0 = some r) :
  Calls Tryd.prog 41 #[.int .u64 a0] w fun e w' => e = .returned (.bool r) ∧ Drawn0 w w' := by
 have H : ((gimbalref04_Parts.f a0).bind fun bt390 => (if bt390.2.1 = 2047 then (some (bt390.2.2 == 0)) else (some false))) = some r := h
 clear h
 obtain ⟨⟨t390, t391, t392⟩, A20, H⟩ := Option.bind_eq_some_iff.mp H
 (try dsimp -simprocs only at H)
 have A2 := Aside0.mk A20
 clear A20
 by_cases c3 : t391 = 2047
 rotate_left
 ·
  rw [if_neg c3] at H
  have c3b0 : (t391 == 2047) = false := beq_eq_false_iff_ne.mpr c3
  have c3b1 : (t391 != 2047) = true := bne_iff_ne.mpr c3
  obtain rfl := Option.some.inj H
  go_enter Tryd.func41, Tryd.ntmps41
  go_wp2_with (first | ((with_reducible refine gate_callee (f := 50) rfl ?_); refine goesL_ (some 8) rfl rfl Tryd.func50 (by kernel_rfl) rfl #[.int .u64 a0] rfl ga ?_; (with_reducible refine (gimbalref04_Parts.calls a0 t390 t391 t392 _ A2.out).mono ?_); rintro e w' ⟨rfl, ⟨nd, rfl⟩⟩; refine ⟨_, rfl, ?_⟩))
  go_ret
  exact ⟨by first | rfl | (simp; done) | (simp [*]; done), by repeat (first | exact Drawn0.refl _ | apply Drawn0.step)⟩

 rw [if_pos c3] at H
 have c3b0 : (t391 == 2047) = true := beq_iff_eq.mpr c3
 have c3b1 : (t391 != 2047) = false := bne_eq_false_iff_eq.mpr c3
 clear c3
 obtain rfl := Option.some.inj H
 go_enter Tryd.func41, Tryd.ntmps41
 go_wp2_with (first | ((with_reducible refine gate_callee (f := 50) rfl ?_); refine goesL_ (some 8) rfl rfl Tryd.func50 (by kernel_rfl) rfl #[.int .u64 a0] rfl ga ?_; (with_reducible refine (gimbalref04_Parts.calls a0 t390 t391 t392 _ A2.out).mono ?_); rintro e w' ⟨rfl, ⟨nd, rfl⟩⟩; refine ⟨_, rfl, ?_⟩))
 go_ret
 exact ⟨by first | rfl | (simp; done) | (simp [*]; done), by repeat (first | exact Drawn0.refl _ | apply Drawn0.step)⟩
/-! ### gimbalref04_IsZero: function 42 -/
def gimbalref04_IsZero.f (a0 : Int) : Option (Bool) := (gimbalref04_Parts.f a0).bind fun bt393 => (if bt393.2.1 = 0 then (some (bt393.2.2 == 0)) else (some false))
set_option maxHeartbeats 8000000 in
set_option maxRecDepth 100000 in
theorem gimbalref04_IsZero.calls (a0 : Int) (r : Bool) (w : World) (h : gimbalref04_IsZero.f a0 = some r) :
  Calls Tryd.prog 42 #[.int .u64 a0] w fun e w' => e = .returned (.bool r) ∧ Drawn0 w w' := by
 have H : ((gimbalref04_Parts.f a0).bind fun bt393 => (if bt393.2.1 = 0 then (some (bt393.2.2 == 0)) else (some false))) = some r := h
 clear h
 obtain ⟨⟨t393, t394, t395⟩, A20, H⟩ := Option.bind_eq_some_iff.mp H
 (try dsimp -simprocs only at H)
 have A2 := Aside0.mk A20
 clear A20
 by_cases c3 : t394 = 0
 rotate_left
 ·
  rw [if_neg c3] at H
  have c3b0 : (t394 == 0) = false := beq_eq_false_iff_ne.mpr c3
  have c3b1 : (t394 != 0) = true := bne_iff_ne.mpr c3
  obtain rfl := Option.some.inj H
  go_enter Tryd.func42, Tryd.ntmps42
  go_wp2_with (first | ((with_reducible refine gate_callee (f := 50) rfl ?_); refine goesL_ (some 8) rfl rfl Tryd.func50 (by kernel_rfl) rfl #[.int .u64 a0] rfl ga ?_; (with_reducible refine (gimbalref04_Parts.calls a0 t393 t394 t395 _ A2.out).mono ?_); rintro e w' ⟨rfl, ⟨nd, rfl⟩⟩; refine ⟨_, rfl, ?_⟩))
  go_ret
  exact ⟨by first | rfl | (simp; done) | (simp [*]; done), by repeat (first | exact Drawn0.refl _ | apply Drawn0.step)⟩

 rw [if_pos c3] at H
 have c3b0 : (t394 == 0) = true := beq_iff_eq.mpr c3
 have c3b1 : (t394 != 0) = false := bne_eq_false_iff_eq.mpr c3
 clear c3
 obtain rfl := Option.some.inj H
 go_enter Tryd.func42, Tryd.ntmps42
 go_wp2_with (first | ((with_reducible refine gate_callee (f := 50) rfl ?_); refine goesL_ (some 8) rfl rfl Tryd.func50 (by kernel_rfl) rfl #[.int .u64 a0] rfl ga ?_; (with_reducible refine (gimbalref04_Parts.calls a0 t393 t394 t395 _ A2.out).mono ?_); rintro e w' ⟨rfl, ⟨nd, rfl⟩⟩; refine ⟨_, rfl, ?_⟩))
 go_ret
 exact ⟨by first | rfl | (simp; done) | (simp [*]; done), by repeat (first | exact Drawn0.refl _ | apply Drawn0.step)⟩
/-! ### gimbalref04_Signed: function 43 -/
def gimbalref04_Signed.f (a0 : Bool) (a1 : Int) : Option (Int) := if a0 = true then (some (IntKind.u64.wrap (a1 + 9223372036854775808))) else (some a1)
set_option maxHeartbeats 8000000 in
set_option maxRecDepth 100000 in
theorem gimbalref04_Signed.calls (a0 : Bool) (a1 : Int) (r : Int) (w : World) (h : gimbalref04_Signed.f a0 a1 = some r) :
  Calls Tryd.prog 43 #[.bool a0, .int .u64 a1] w fun e w' => e = .returned (.int .u64 r) ∧ Drawn0 w w' := by
 have H : (if a0 = true then (some (IntKind.u64.wrap (a1 + 9223372036854775808))) else (some a1)) = some r := h
 clear h
 by_cases c3 : a0 = true
 ·
  subst c3
  rw [if_pos rfl] at H
  obtain rfl := Option.some.inj H
  go_enter Tryd.func43, Tryd.ntmps43
  go_wp2
  go_ret
  exact ⟨by first | rfl | (simp; done) | (simp [*]; done), by repeat (first | exact Drawn0.refl _ | apply Drawn0.step)⟩
 ·
  replace c3 := Bool.eq_false_iff.mpr c3
  subst c3
  rw [if_neg (show ¬ (false = true) by decide)] at H
  obtain rfl := Option.some.inj H
  go_enter Tryd.func43, Tryd.ntmps43
  go_wp2
  go_ret
  exact ⟨by first | rfl | (simp; done) | (simp [*]; done), by repeat (first | exact Drawn0.refl _ | apply Drawn0.step)⟩

/-! ### gimbalref04_Neg: function 44 -/
def gimbalref04_Neg.f (a0 : Int) : Option (Bool) := (gimbalref04_Parts.f a0).bind fun bt396 => (some bt396.1)
set_option maxHeartbeats 8000000 in
set_option maxRecDepth 100000 in
theorem gimbalref04_Neg.calls (a0 : Int) (r : Bool) (w : World) (h : gimbalref04_Neg.f a0 = some r) :
  Calls Tryd.prog 44 #[.int .u64 a0] w fun e w' => e = .returned (.bool r) ∧ Drawn0 w w' := by
 have H : ((gimbalref04_Parts.f a0).bind fun bt396 => (some bt396.1)) = some r := h
 clear h
 obtain ⟨⟨t396, t397, t398⟩, A20, H⟩ := Option.bind_eq_some_iff.mp H
 (try dsimp -simprocs only at H)
 have A2 := Aside0.mk A20
 clear A20
 obtain rfl := Option.some.inj H
 go_enter Tryd.func44, Tryd.ntmps44
 go_wp2_with (first | ((with_reducible refine gate_callee (f := 50) rfl ?_); refine goesL_ (some 8) rfl rfl Tryd.func50 (by kernel_rfl) rfl #[.int .u64 a0] rfl ga ?_; (with_reducible refine (gimbalref04_Parts.calls a0 t396 t397 t398 _ A2.out).mono ?_); rintro e w' ⟨rfl, ⟨nd, rfl⟩⟩; refine ⟨_, rfl, ?_⟩))
 go_ret
 exact ⟨by first | rfl | (simp; done) | (simp [*]; done), by repeat (first | exact Drawn0.refl _ | apply Drawn0.step)⟩

/-! ### gimbalref04_Whole: function 45 -/
def gimbalref04_Whole.f (k : Nat) (a0 : Int) : Option (List Int) := (gimbalref04_Parts.f a0).bind fun bt432 => (if bt432.2.1 = 0 then ((gimbalref02_Of.f k bt432.2.2).bind fun t435 => (some t435)) else ((gimbalref02_Of.f k (IntKind.u64.wrap (bt432.2.2 + 4503599627370496))).bind fun t438 => ((gimbalref02_Up.f k t438 (wrap64 (bt432.2.1 - 1))).bind fun t441 => (some t441))))
theorem gimbalref04_Whole.mono : ∀ a0 k, LeO (gimbalref04_Whole.f k a0) (gimbalref04_Whole.f (k + 1) a0) := by
 intro a0 k
 unfold gimbalref04_Whole.f
 repeat' with_reducible first | apply gimbalref02_Of.mono | apply gimbalref02_Up.mono | exact LeO.refl _ | exact LeO.none _ | refine LeO.ite ?_ ?_ | refine LeO.bind ?_ (fun _ => ?_)
set_option maxHeartbeats 8000000 in
set_option maxRecDepth 100000 in
theorem gimbalref04_Whole.calls (k : Nat) (a0 : Int) (r : List Int) (w : World) (h : gimbalref04_Whole.f k a0 = some r) :
  Calls Tryd.prog 45 #[.int .u64 a0] w fun e w' => ∃ v0_ : Value, e = .returned (v0_) ∧ Kd.R (Kd.int .i64) 3 w' w.heap.size (fun _ => True) v0_ r ∧ Below w.heap.size w w' := by
 have HB := Aside0.mk (Below.refl w.heap.size w)
 have H : ((gimbalref04_Parts.f a0).bind fun bt432 => (if bt432.2.1 = 0 then ((gimbalref02_Of.f k bt432.2.2).bind fun t435 => (some t435)) else ((gimbalref02_Of.f k (IntKind.u64.wrap (bt432.2.2 + 4503599627370496))).bind fun t438 => ((gimbalref02_Up.f k t438 (wrap64 (bt432.2.1 - 1))).bind fun t441 => (some t441))))) = some r := h
 clear h
 obtain ⟨⟨t432, t433, t434⟩, A20, H⟩ := Option.bind_eq_some_iff.mp H
 (try dsimp -simprocs only at H)
 have A2 := Aside0.mk A20
 clear A20
 by_cases c3 : t433 = 0
 ·
  rw [if_pos c3] at H
  have c3b0 : (t433 == 0) = true := beq_iff_eq.mpr c3
  have c3b1 : (t433 != 0) = false := bne_eq_false_iff_eq.mpr c3
  clear c3
  obtain ⟨t435, A40, H⟩ := Option.bind_eq_some_iff.mp H
  (try dsimp -simprocs only at H)
  have A4 := Aside0.mk A40
  clear A40
  obtain rfl := Option.some.inj H
  go_enter Tryd.func45, Tryd.ntmps45
  go_wp2_with (first | ((with_reducible refine gate_callee (f := 50) rfl ?_); refine goesL_ (some 8) rfl rfl Tryd.func50 (by kernel_rfl) rfl #[.int .u64 a0] rfl ga ?_; (with_reducible refine (gimbalref04_Parts.calls a0 t432 t433 t434 _ A2.out).mono ?_); rintro e w' ⟨rfl, ⟨nd, rfl⟩⟩; refine ⟨_, rfl, ?_⟩) | ((with_reducible refine gate_callee (f := 19) rfl ?_); refine goesL_ (some 15) rfl rfl Tryd.func19 (by kernel_rfl) rfl #[.int .u64 t434] rfl ga ?_; (with_reducible refine (gimbalref02_Of.calls k t434 t435 _ A4.out).mono ?_); rintro e w5 ⟨v436, rfl, ho0, hb⟩; refine ⟨_, rfl, ?_⟩; refine ax2 (Kd.R_lower ho0 (below_size bel)) (below_step bel hb) ?_; clear HB; intro HO437 HB; (try clear hb); (try clear ho0)))
  go_ret
  exact ⟨_, er, kr HO437, bel⟩
 ·
  rw [if_neg c3] at H
  have c3b0 : (t433 == 0) = false := beq_eq_false_iff_ne.mpr c3
  have c3b1 : (t433 != 0) = true := bne_iff_ne.mpr c3
  obtain ⟨t438, A60, H⟩ := Option.bind_eq_some_iff.mp H
  (try dsimp -simprocs only at H)
  have A6 := Aside0.mk A60
  clear A60
  obtain ⟨t441, A70, H⟩ := Option.bind_eq_some_iff.mp H
  (try dsimp -simprocs only at H)
  have A7 := Aside0.mk A70
  clear A70
  obtain rfl := Option.some.inj H
  go_enter Tryd.func45, Tryd.ntmps45
  go_wp2_with (first | ((with_reducible refine gate_callee (f := 50) rfl ?_); refine goesL_ (some 8) rfl rfl Tryd.func50 (by kernel_rfl) rfl #[.int .u64 a0] rfl ga ?_; (with_reducible refine (gimbalref04_Parts.calls a0 t432 t433 t434 _ A2.out).mono ?_); rintro e w' ⟨rfl, ⟨nd, rfl⟩⟩; refine ⟨_, rfl, ?_⟩) | ((with_reducible refine gate_callee (f := 19) rfl ?_); refine goesL_ (some 18) rfl rfl Tryd.func19 (by kernel_rfl) rfl #[.int .u64 (IntKind.u64.wrap (t434 + 4503599627370496))] rfl ga ?_; (with_reducible refine (gimbalref02_Of.calls k (IntKind.u64.wrap (t434 + 4503599627370496)) t438 _ A6.out).mono ?_); rintro e w8 ⟨v439, rfl, ho0, hb⟩; refine ⟨_, rfl, ?_⟩; refine ax2 (Kd.R_lower ho0 (below_size bel)) (below_step bel hb) ?_; clear HB; intro HO440 HB; (try clear hb); (try clear ho0); obtain ⟨Ao9, co9, eo9⟩ := Kd.R_slice HO440.out; subst eo9) | ((with_reducible refine gate_callee (f := 68) rfl ?_); refine goesL_ (some 21) rfl rfl Tryd.func68 (by kernel_rfl) rfl #[.slice Ao9 t438.length co9, .int .i64 (wrap64 (t433 - 1))] rfl ga ?_; (with_reducible refine (gimbalref02_Up.calls k _ _ t438 (wrap64 (t433 - 1)) t441 _ ?side1 ?side2 A7.out).mono ?_); (case side1 => exact ks HO440); (case side2 => exact (Kd.R_reads' HO440.out).2.1); rintro e w10 ⟨v442, rfl, ho0, hb⟩; refine ⟨_, rfl, ?_⟩; refine ax3 (Kd.R_elder' (kr HO440) (Kd.R_base ho0) hb) (Kd.R_lower (Kd.R_new' ho0 (Kd.R_lt (kr HO440))) (below_size bel)) (below_step bel hb) ?_; clear HO440; clear HB; intro HO440 HO443 HB; (try clear hb); (try clear ho0)))
  go_ret
  exact ⟨_, er, by (with_reducible repeat (first | apply Kd.R_alloc | apply Kd.R_drewN | apply Kd.R_drew)); exact Kd.R_mono HO443.out (fun _ hk => trivial), bel⟩

/-! ### gimbalref02_Down: function 70 -/
def gimbalref02_Down.l0 : Nat → List Int → Int → Bool → Int → Option (List Int × Bool)
 | 0, _, _, _, _ => none
 | k + 1, x0, x1, x6, x7 => if x7 < x1 then (if x7 < (x0.length : Int) then (if x6 = true then (gimbalref02_Down.l0 k x0 x1 true (wrap64 (x7 + 1))) else (if 0 ≤ x7 then (gimbalref02_Down.l0 k x0 x1 ((rd x0 x7) == 1) (wrap64 (x7 + 1))) else (none))) else (if x1 ≥ (x0.length : Int) then (some ((([] : List Int)), x6)) else (if 0 ≤ (mx x1 0) then (if (mx x1 0) ≤ (x0.length : Int) then ((gimbalref02_Trim.f k (x0.drop ((mx x1 0) : Int).toNat)).bind fun t500 => (some (t500, x6))) else (none)) else (none)))) else (if x1 ≥ (x0.length : Int) then (some ((([] : List Int)), x6)) else (if 0 ≤ (mx x1 0) then (if (mx x1 0) ≤ (x0.length : Int) then ((gimbalref02_Trim.f k (x0.drop ((mx x1 0) : Int).toNat)).bind fun t507 => (some (t507, x6))) else (none)) else (none)))
def gimbalref02_Down.f (k : Nat) (l0 : List Int) (a1 : Int) : Option (List Int × Bool) := gimbalref02_Down.l0 k l0 a1 false 0
theorem gimbalref02_Down.mono_l : ∀ k, (∀ y0 y1 y2 y3, LeO (gimbalref02_Down.l0 k y0 y1 y2 y3) (gimbalref02_Down.l0 (k + 1) y0 y1 y2 y3))
 | 0 => fun _ _ _ _ r h => by simp [gimbalref02_Down.l0] at h
 | k + 1 => by
  have ih0 := gimbalref02_Down.mono_l k
  ·
   intro y0 y1 y2 y3
   unfold gimbalref02_Down.l0
   repeat' with_reducible first | apply ih0 | apply gimbalref02_Trim.mono | exact LeO.refl _ | exact LeO.none _ | refine LeO.ite ?_ ?_ | refine LeO.bind ?_ (fun _ => ?_)
theorem gimbalref02_Down.mono : ∀ a0 a1 k, LeO (gimbalref02_Down.f k a0 a1) (gimbalref02_Down.f (k + 1) a0 a1) := by
 intro a0 a1 k
 have ih0 := gimbalref02_Down.mono_l k
 unfold gimbalref02_Down.f
 repeat' with_reducible first | apply ih0 | apply gimbalref02_Trim.mono | exact LeO.refl _ | exact LeO.none _ | refine LeO.ite ?_ ?_ | refine LeO.bind ?_ (fun _ => ?_)
set_option maxHeartbeats 8000000 in
set_option maxRecDepth 100000 in
theorem gimbalref02_Down.calls (k : Nat) (A0 : Option Addr) (c0 : Nat) (l0 : List Int) (a1 : Int) (r1 : List Int) (r2 : Bool) (w : World) (hr0 : Kd.C (Kd.int .i64) w A0 l0.length l0) (hc0 : l0.length ≤ c0) (h : gimbalref02_Down.f k l0 a1 = some (r1, r2)) :
  Calls Tryd.prog 70 #[.slice A0 l0.length c0, .int .i64 a1] w fun e w' => ∃ v0_ : Value, e = .returned (.tuple #[v0_, .bool r2]) ∧ Kd.R (Kd.int .i64) 3 w' w.heap.size (fun _ => True) v0_ r1 ∧ Below w.heap.size w w' := by
 have HR0 := Aside0.mk hr0
 have HC0 := Aside0.mk hc0
 clear hr0 hc0
 have HB := Aside0.mk (Below.refl w.heap.size w)
 have H : (gimbalref02_Down.l0 k l0 a1 false 0) = some (r1, r2) := h
 clear h
 have H' := Aside0.mk H
 clear H
 go_enter Tryd.func70, Tryd.ntmps70
 go_wp2
 go_loopg [6, 7] k (fun kq v6 v7 w' => ∃ (x6_1 : Bool) (x7_1 : Int), v6 = .bool x6_1 ∧ v7 = .int .i64 x7_1 ∧ Aside0 (gimbalref02_Down.l0 kq l0 a1 x6_1 x7_1 = some (r1, r2)) ∧ Aside0 (kq ≤ k) ∧ Aside0 (Below w.heap.size w w'))
 case atStart => exact ⟨(false), (0), (by first | rfl | (simp; done) | (simp [*]; done)), (by first | rfl | (simp; done) | (simp [*]; done)), H', ⟨Nat.le_refl _⟩, ⟨bel⟩⟩
 case round =>
  clear H'
  try clear p2
  obtain ⟨x6_1, x7_1, rfl, rfl, HA, HK1, HB⟩ := hrel
  cases gk with
  | zero => exact absurd HA.out (by simp [gimbalref02_Down.l0])
  | succ k1 =>
   have H := HA.out
   clear HA
   simp only [gimbalref02_Down.l0] at H
   by_cases c3 : x7_1 < a1
   ·
    rw [if_pos c3] at H
    have c3b0 : decide (x7_1 < a1) = true := decide_eq_true c3
    clear c3
    by_cases c4 : x7_1 < (l0.length : Int)
    ·
     rw [if_pos c4] at H
     have c4b0 : decide (x7_1 < (l0.length : Int)) = true := decide_eq_true c4
     clear c4
     by_cases c5 : x6_1 = true
     ·
      subst c5
      rw [if_pos rfl] at H
      have H' := Aside0.mk H
      clear H
      go_wp2
      go_roundg k1
      case measure => have := HK1.out; omega
      case rel => exact ⟨(true), (wrap64 (x7_1 + 1)), (by first | rfl | (simp; done) | (simp [*]; done)), (by first | rfl | (simp; done) | (simp [*]; done)), H', ⟨by have := HK1.out; omega⟩, ⟨bel⟩⟩
     ·
      replace c5 := Bool.eq_false_iff.mpr c5
      subst c5
      rw [if_neg (show ¬ (false = true) by decide)] at H
      by_cases c6 : 0 ≤ x7_1
      rotate_left
      ·
       rw [if_neg c6] at H
       exact absurd H (by simp)
      rw [if_pos c6] at H
      have c6b0 : decide (0 ≤ x7_1) = true := decide_eq_true c6
      clear c6
      have H' := Aside0.mk H
      clear H
      have p495 : 0 ≤ (x7_1 : Int) := of_decide_eq_true (by first | (with_reducible assumption) | assumption)
      have q495 : x7_1 < (l0.length : Int) := of_decide_eq_true (by first | (with_reducible assumption) | assumption)
      obtain ⟨ad495, e495, hx495_0⟩ := Kd.at_int HR0.out x7_1 p495 q495
      cases e495
      replace hx495_0 := (HB.out.cell (World.block_lt_of_cell? w _ hx495_0)).trans hx495_0
      replace p495 := eq_true p495
      replace q495 := eq_true q495
      go_wp2
      go_roundg k1
      case measure => have := HK1.out; omega
      case rel => exact ⟨(((rd l0 x7_1) == 1)), (wrap64 (x7_1 + 1)), (by first | rfl | (simp; done) | (simp [*]; done)), (by first | rfl | (simp; done) | (simp [*]; done)), H', ⟨by have := HK1.out; omega⟩, ⟨bel⟩⟩
    ·
     rw [if_neg c4] at H
     have c4b0 : decide (x7_1 < (l0.length : Int)) = false := decide_eq_false c4
     clear c4
     by_cases c7 : a1 ≥ (l0.length : Int)
     ·
      rw [if_pos c7] at H
      have c7b0 : decide ((l0.length : Int) ≤ a1) = true := decide_eq_true c7
      clear c7
      obtain ⟨y496, hy496⟩ : ∃ y_ : List Int, y_ = (([] : List Int)) := ⟨_, rfl⟩
      replace H : (some (y496, x6_1)) = some (r1, r2) := by first | (rw [hy496]; with_reducible exact H) | (have H2_ := (Option.bind_some _ _).symm.trans H; rw [hy496]; with_reducible exact H2_) | (have H2_ := (Option.bind_some _ _).symm.trans H; with_reducible exact H2_) | with_reducible exact H | (rw [hy496]; exact H) | exact H
      have Ny496 := Aside0.mk hy496
      clear hy496
      simp only [Option.some.injEq, Prod.mk.injEq] at H
      obtain ⟨rfl, rfl⟩ := H
      go_wp2_with (first | ((with_reducible refine gate_dst (N := 31) rfl ?_); refine Kd.R_lit (Kd.int .i64) _ 3 ?hg (N := 31) ?hd (xs := ([] : List Int)) (inner := []) (ok := fun _ => True) (okp := fun _ => True) ?hr ?hp (fun _ hk => hk) trivial (Below.refl _ _) (Nat.le_refl _) (by simp) ?_; (case hd => rfl); (case hg => rfl); (case hr => first | (go_simp; done) | (go_simp; rfl)); (case hp => exact (Reps.none _ _)); intro v497 w8 ho9 hb hg_ hnew_; clear hg_ hnew_; (first | rw [← Ny496.out] at ho9 | (simp only [Int.reduceToNat] at ho9; rw [← Ny496.out] at ho9)); refine ax2 (Kd.R_lower ho9 (below_size bel)) (below_step bel hb) ?_; clear HB; intro HO498 HB; clear hb ho9))
      go_ret2
      exact ⟨_, er, kr HO498, bel⟩
     ·
      rw [if_neg c7] at H
      have c7b0 : decide ((l0.length : Int) ≤ a1) = false := decide_eq_false c7
      clear c7
      obtain ⟨ji10, hji10⟩ : ∃ j_ : Int, (mx a1 0) = j_ := ⟨_, rfl⟩
      replace H : (if 0 ≤ (ji10) then (if (ji10) ≤ (l0.length : Int) then ((gimbalref02_Trim.f k1 (l0.drop ((ji10) : Int).toNat)).bind fun t500 => (some (t500, x6_1))) else (none)) else (none)) = some (r1, r2) := by first | (rw [hji10] at H; exact H) | (simp only [hji10] at H ⊢; exact H)
      have hji10_ : (if a1 < 0 then 0 else a1) = ji10 := hji10
      by_cases c11 : 0 ≤ (ji10)
      rotate_left
      ·
       rw [if_neg c11] at H
       exact absurd H (by simp)
      rw [if_pos c11] at H
      have c11b0 := eq_true c11
      have c11b1 : decide (0 ≤ (ji10)) = true := decide_eq_true c11
      clear c11
      by_cases c12 : (ji10) ≤ (l0.length : Int)
      rotate_left
      ·
       rw [if_neg c12] at H
       exact absurd H (by simp)
      rw [if_pos c12] at H
      have c12b0 := eq_true c12
      have c12b1 : decide ((ji10) ≤ (l0.length : Int)) = true := decide_eq_true c12
      clear c12
      obtain ⟨t500, A130, H⟩ := Option.bind_eq_some_iff.mp H
      (try dsimp -simprocs only at H)
      have A13 := Aside0.mk A130
      clear A130
      simp only [Option.some.injEq, Prod.mk.injEq] at H
      obtain ⟨rfl, rfl⟩ := H
      obtain ⟨i014, hi014, _, hsz14, _⟩ := info_parts info3
      obtain ⟨A14, hcut14, hA14, hC14⟩ := print_drop_of (P := Tryd.prog) (Value.int .i64) 0 39 3 .i64 Tryd.underlying39 hi014 hsz14 A0 c0 l0 (ji10) (of_decide_eq_true (by first | (with_reducible assumption) | assumption)) (of_decide_eq_true (by first | (with_reducible assumption) | assumption)) HC0.out
      have HR499 := Aside0.mk (Kd.C_of_reads (h1 := fun _ => rfl) (hA14 _ (Kd.reads_of_C HR0.out)))
      have HC499 := Aside0.mk hC14
      clear hA14 hC14 hi014 hsz14
      go_wp2_with (first | ((with_reducible refine gate_callee (f := 69) rfl ?_); refine goesL_ (some 37) rfl rfl Tryd.func69 (by kernel_rfl) rfl #[.slice A14 (l0.drop ((ji10) : Int).toNat).length (c0 - (ji10).toNat)] rfl (by (try simp only [List.map_toArray, List.map_cons, List.map_nil]); first | done | (rw [show (l0.drop ((ji10) : Int).toNat).length = (l0.length - (ji10).toNat) from List.length_drop] <;> rfl) | (simp only [hji10]; rfl) | rfl | (simp only [List.length_drop, List.length_take]; rfl)) ?_; (with_reducible refine (gimbalref02_Trim.calls k1 _ _ (l0.drop ((ji10) : Int).toNat) t500 _ ?side1 ?side2 A13.out).mono ?_); (case side1 => repeat (first | exact (Kd.C_below HR499.out HB.out) | (with_reducible refine Kd.C_alloc ?_ _) | (with_reducible refine Kd.C_drewN ?_ _) | (with_reducible refine Kd.C_drew ?_))); (case side2 => exact HC499.out); rintro e w15 ⟨v501, rfl, ho0, hb⟩; refine ⟨_, rfl, ?_⟩; refine ax2 (Kd.R_lower ho0 (below_size bel)) (below_step bel hb) ?_; clear HB; intro HO502 HB; (try clear hb); (try clear ho0)))
      go_ret2
      exact ⟨_, by first | rfl | (simp [errW_none, errW_some] <;> rfl) | (simp only [← hji10]; first | rfl | (simp [errW_none, errW_some] <;> rfl)) | (simp [*, errW_none, errW_some] <;> rfl), kr HO502, bel⟩
   ·
    rw [if_neg c3] at H
    have c3b0 : decide (x7_1 < a1) = false := decide_eq_false c3
    clear c3
    by_cases c16 : a1 ≥ (l0.length : Int)
    ·
     rw [if_pos c16] at H
     have c16b0 : decide ((l0.length : Int) ≤ a1) = true := decide_eq_true c16
     clear c16
     obtain ⟨y503, hy503⟩ : ∃ y_ : List Int, y_ = (([] : List Int)) := ⟨_, rfl⟩
     replace H : (some (y503, x6_1)) = some (r1, r2) := by first | (rw [hy503]; with_reducible exact H) | (have H2_ := (Option.bind_some _ _).symm.trans H; rw [hy503]; with_reducible exact H2_) | (have H2_ := (Option.bind_some _ _).symm.trans H; with_reducible exact H2_) | with_reducible exact H | (rw [hy503]; exact H) | exact H
     have Ny503 := Aside0.mk hy503
     clear hy503
     simp only [Option.some.injEq, Prod.mk.injEq] at H
     obtain ⟨rfl, rfl⟩ := H
     go_wp2_with (first | ((with_reducible refine gate_dst (N := 31) rfl ?_); refine Kd.R_lit (Kd.int .i64) _ 3 ?hg (N := 31) ?hd (xs := ([] : List Int)) (inner := []) (ok := fun _ => True) (okp := fun _ => True) ?hr ?hp (fun _ hk => hk) trivial (Below.refl _ _) (Nat.le_refl _) (by simp) ?_; (case hd => rfl); (case hg => rfl); (case hr => first | (go_simp; done) | (go_simp; rfl)); (case hp => exact (Reps.none _ _)); intro v504 w17 ho18 hb hg_ hnew_; clear hg_ hnew_; (first | rw [← Ny503.out] at ho18 | (simp only [Int.reduceToNat] at ho18; rw [← Ny503.out] at ho18)); refine ax2 (Kd.R_lower ho18 (below_size bel)) (below_step bel hb) ?_; clear HB; intro HO505 HB; clear hb ho18))
     go_ret2
     exact ⟨_, er, kr HO505, bel⟩
    ·
     rw [if_neg c16] at H
     have c16b0 : decide ((l0.length : Int) ≤ a1) = false := decide_eq_false c16
     clear c16
     obtain ⟨ji19, hji19⟩ : ∃ j_ : Int, (mx a1 0) = j_ := ⟨_, rfl⟩
     replace H : (if 0 ≤ (ji19) then (if (ji19) ≤ (l0.length : Int) then ((gimbalref02_Trim.f k1 (l0.drop ((ji19) : Int).toNat)).bind fun t507 => (some (t507, x6_1))) else (none)) else (none)) = some (r1, r2) := by first | (rw [hji19] at H; exact H) | (simp only [hji19] at H ⊢; exact H)
     have hji19_ : (if a1 < 0 then 0 else a1) = ji19 := hji19
     by_cases c20 : 0 ≤ (ji19)
     rotate_left
     ·
      rw [if_neg c20] at H
      exact absurd H (by simp)

     rw [if_pos c20] at H
     have c20b0 := eq_true c20
     have c20b1 : decide (0 ≤ (ji19)) = true := decide_eq_true c20
     clear c20
     by_cases c21 : (ji19) ≤ (l0.length : Int)
     rotate_left
     ·
      rw [if_neg c21] at H
      exact absurd H (by simp)
     rw [if_pos c21] at H
     have c21b0 := eq_true c21
     have c21b1 : decide ((ji19) ≤ (l0.length : Int)) = true := decide_eq_true c21
     clear c21
     obtain ⟨t507, A220, H⟩ := Option.bind_eq_some_iff.mp H
     (try dsimp -simprocs only at H)
     have A22 := Aside0.mk A220
     clear A220
     simp only [Option.some.injEq, Prod.mk.injEq] at H
     obtain ⟨rfl, rfl⟩ := H
     obtain ⟨i023, hi023, _, hsz23, _⟩ := info_parts info3
     obtain ⟨A23, hcut23, hA23, hC23⟩ := print_drop_of (P := Tryd.prog) (Value.int .i64) 0 39 3 .i64 Tryd.underlying39 hi023 hsz23 A0 c0 l0 (ji19) (of_decide_eq_true (by first | (with_reducible assumption) | assumption)) (of_decide_eq_true (by first | (with_reducible assumption) | assumption)) HC0.out
     have HR506 := Aside0.mk (Kd.C_of_reads (h1 := fun _ => rfl) (hA23 _ (Kd.reads_of_C HR0.out)))
     have HC506 := Aside0.mk hC23
     clear hA23 hC23 hi023 hsz23
     go_wp2_with (first | ((with_reducible refine gate_callee (f := 69) rfl ?_); refine goesL_ (some 37) rfl rfl Tryd.func69 (by kernel_rfl) rfl #[.slice A23 (l0.drop ((ji19) : Int).toNat).length (c0 - (ji19).toNat)] rfl (by (try simp only [List.map_toArray, List.map_cons, List.map_nil]); first | done | (rw [show (l0.drop ((ji19) : Int).toNat).length = (l0.length - (ji19).toNat) from List.length_drop] <;> rfl) | (simp only [hji19]; rfl) | rfl | (simp only [List.length_drop, List.length_take]; rfl)) ?_; (with_reducible refine (gimbalref02_Trim.calls k1 _ _ (l0.drop ((ji19) : Int).toNat) t507 _ ?side1 ?side2 A22.out).mono ?_); (case side1 => repeat (first | exact (Kd.C_below HR506.out HB.out) | (with_reducible refine Kd.C_alloc ?_ _) | (with_reducible refine Kd.C_drewN ?_ _) | (with_reducible refine Kd.C_drew ?_))); (case side2 => exact HC506.out); rintro e w24 ⟨v508, rfl, ho0, hb⟩; refine ⟨_, rfl, ?_⟩; refine ax2 (Kd.R_lower ho0 (below_size bel)) (below_step bel hb) ?_; clear HB; intro HO509 HB; (try clear hb); (try clear ho0)))
     go_ret2
     exact ⟨_, by first | rfl | (simp [errW_none, errW_some] <;> rfl) | (simp only [← hji19]; first | rfl | (simp [errW_none, errW_some] <;> rfl)) | (simp [*, errW_none, errW_some] <;> rfl), kr HO509, bel⟩
/-! ### gimbalref02_Num: function 71 -/
def gimbalref02_Num.l0 : Nat → List Int → Int → Int → Option (Int)
 | 0, _, _, _ => none
 | k + 1, x0, x3, x4 => if x4 ≥ 0 then (if 0 ≤ x4 then (if x4 < (x0.length : Int) then (gimbalref02_Num.l0 k x0 (IntKind.u64.wrap ((IntKind.u64.wrap (2 * x3)) + (IntKind.u64.wrap (rd x0 x4)))) (wrap64 (x4 - 1))) else (none)) else (none)) else (some x3)
def gimbalref02_Num.f (k : Nat) (l0 : List Int) : Option (Int) := gimbalref02_Num.l0 k l0 0 ((mn (l0.length : Int) 64) - 1)
theorem gimbalref02_Num.mono_l : ∀ k, (∀ y0 y1 y2, LeO (gimbalref02_Num.l0 k y0 y1 y2) (gimbalref02_Num.l0 (k + 1) y0 y1 y2))
 | 0 => fun _ _ _ r h => by simp [gimbalref02_Num.l0] at h
 | k + 1 => by
  have ih0 := gimbalref02_Num.mono_l k
  ·
   intro y0 y1 y2
   unfold gimbalref02_Num.l0
   repeat' with_reducible first | apply ih0 | exact LeO.refl _ | exact LeO.none _ | refine LeO.ite ?_ ?_ | refine LeO.bind ?_ (fun _ => ?_)
theorem gimbalref02_Num.mono : ∀ a0 k, LeO (gimbalref02_Num.f k a0) (gimbalref02_Num.f (k + 1) a0) := by
 intro a0 k
 have ih0 := gimbalref02_Num.mono_l k
 unfold gimbalref02_Num.f
 repeat' with_reducible first | apply ih0 | exact LeO.refl _ | exact LeO.none _ | refine LeO.ite ?_ ?_ | refine LeO.bind ?_ (fun _ => ?_)
set_option maxHeartbeats 8000000 in
set_option maxRecDepth 100000 in
theorem gimbalref02_Num.calls (k : Nat) (A0 : Option Addr) (c0 : Nat) (l0 : List Int) (r : Int) (w : World) (hr0 : Kd.C (Kd.int .i64) w A0 l0.length l0) (hc0 : l0.length ≤ c0) (h : gimbalref02_Num.f k l0 = some r) :
  Calls Tryd.prog 71 #[.slice A0 l0.length c0] w fun e w' => e = .returned (.int .u64 r) ∧ Below w.heap.size w w' := by
 have HR0 := Aside0.mk hr0
 have HC0 := Aside0.mk hc0
 clear hr0 hc0
 have HB := Aside0.mk (Below.refl w.heap.size w)
 have H : (gimbalref02_Num.l0 k l0 0 ((mn (l0.length : Int) 64) - 1)) = some r := h
 clear h
 obtain ⟨ji2, hji2⟩ : ∃ j_ : Int, (mn (l0.length : Int) 64) = j_ := ⟨_, rfl⟩
 replace H : (gimbalref02_Num.l0 k l0 0 ((ji2) - 1)) = some r := by first | (rw [hji2] at H; exact H) | (simp only [hji2] at H ⊢; exact H)
 (try (have hji2h : ji2 ≤ 64 := by (rw [← hji2]; unfold mn; (repeat' split) <;> omega)))
 (try (have hji2g : ji2 ≤ 64 := by omega))
 (try (have hji2l : 0 ≤ ji2 := by (rw [← hji2]; unfold mn; (repeat' split) <;> omega)))
 (try (have hji2m : 0 ≤ ji2 := by omega))
 have hji2_ : (if 64 < (l0.length : Int) then 64 else (l0.length : Int)) = ji2 := hji2
 have H' := Aside0.mk H
 clear H
 go_enter Tryd.func71, Tryd.ntmps71
 go_wp2
 go_loopg [3, 4] k (fun kq v3 v4 w' => ∃ (x3_1 : Int) (x4_1 : Int), v3 = .int .u64 x3_1 ∧ v4 = .int .i64 x4_1 ∧ Aside0 (gimbalref02_Num.l0 kq l0 x3_1 x4_1 = some r) ∧ Aside0 (kq ≤ k) ∧ Aside0 (Below w.heap.size w w'))
 case atStart => exact ⟨(0), ((ji2) - 1), (by first | rfl | (simp; done) | (simp [*]; done)), (by first | rfl | (simp; done) | (simp only [← hji2] <;> (first | rfl | simp)) | (simp [*]; done)), H', ⟨Nat.le_refl _⟩, ⟨bel⟩⟩
 case round =>
  clear H'
  try clear p2
  obtain ⟨x3_1, x4_1, rfl, rfl, HA, HK1, HB⟩ := hrel
  cases gk with
  | zero => exact absurd HA.out (by simp [gimbalref02_Num.l0])
  | succ k1 =>
   have H := HA.out
   clear HA
   simp only [gimbalref02_Num.l0] at H
   by_cases c3 : x4_1 ≥ 0
   rotate_left
   ·
    rw [if_neg c3] at H
    have c3b0 : decide (0 ≤ x4_1) = false := decide_eq_false c3
    clear c3
    obtain rfl := Option.some.inj H
    go_wp2
    go_ret
    exact ⟨by first | rfl | (simp [errW_none, errW_some] <;> rfl) | (simp only [← hji2]; first | rfl | (simp [errW_none, errW_some] <;> rfl)) | (simp [*, errW_none, errW_some] <;> rfl), bel⟩

   rw [if_pos c3] at H
   have c3b0 : decide (0 ≤ x4_1) = true := decide_eq_true c3
   clear c3
   by_cases c4 : 0 ≤ x4_1
   rotate_left
   ·
    rw [if_neg c4] at H
    exact absurd H (by simp)
   rw [if_pos c4] at H
   have c4b0 : decide (0 ≤ x4_1) = true := decide_eq_true c4
   clear c4
   by_cases c5 : x4_1 < (l0.length : Int)
   rotate_left
   ·
    rw [if_neg c5] at H
    exact absurd H (by simp)
   rw [if_pos c5] at H
   have c5b0 : decide (x4_1 < (l0.length : Int)) = true := decide_eq_true c5
   clear c5
   have H' := Aside0.mk H
   clear H
   have p510 : 0 ≤ (x4_1 : Int) := of_decide_eq_true (by first | (with_reducible assumption) | assumption)
   have q510 : x4_1 < (l0.length : Int) := of_decide_eq_true (by first | (with_reducible assumption) | assumption)
   obtain ⟨ad510, e510, hx510_0⟩ := Kd.at_int HR0.out x4_1 p510 q510
   cases e510
   replace hx510_0 := (HB.out.cell (World.block_lt_of_cell? w _ hx510_0)).trans hx510_0
   replace p510 := eq_true p510
   replace q510 := eq_true q510
   go_wp2
   go_roundg k1
   case measure => have := HK1.out; omega
   case rel => exact ⟨(IntKind.u64.wrap ((IntKind.u64.wrap (2 * x3_1)) + (IntKind.u64.wrap (rd l0 x4_1)))), (wrap64 (x4_1 - 1)), (by first | rfl | (simp; done) | (simp [*]; done)), (by first | rfl | (simp; done) | (simp [*]; done)), H', ⟨by have := HK1.out; omega⟩, ⟨bel⟩⟩
end Go.Proofs.YtakegikedpcilaaDoor.F
