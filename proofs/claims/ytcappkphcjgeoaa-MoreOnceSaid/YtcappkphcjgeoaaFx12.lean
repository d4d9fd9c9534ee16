-- Written by a program of this seat's session (mkprint), out of the translation.
import Derived.Test.YtcappkphcjgeoaaShort
import Derived.Test.YtcappkphcjgeoaaFx0
import Derived.Test.YtcappkphcjgeoaaFx2
import Derived.Test.YtcappkphcjgeoaaFx3
import Derived.Test.YtcappkphcjgeoaaFx4
namespace Go.Proofs.Ytcappkphcjgeoaa.F
open Go.RowKit Go.Proofs.YtcappkphcjgeoaaW.PrintWords Go.Proofs.YtcappkphcjgeoaaW.PrintLast Go.Proofs.YtcappkphcjgeoaaW.PrintMore
attribute [local go_sem] max2_int min2_int max_two min_two max_three min_three max_four min_four   -- for this text's walks alone
set_option linter.unusedVariables false
set_option linter.unusedSimpArgs false

/-! ### soft_nan: function 53 -/
def soft_nan.l0 : Nat → Int → Bool → List Int → Int → Int → Option (Int × Int × Bool)
 | 0, _, _, _, _, _ => none
 | k + 1, x5, x6, x9, x10, x11 => if x11 < x10 then (if 0 ≤ x11 then (if x11 < (x9.length : Int) then ((word_Kind.f k (rd x9 x11)).bind fun t517 => (if t517 = 5 then ((word_Signals.f k (rd x9 x11)).bind fun t518 => (if t518 = true then (soft_nan.l0 k 16 true x9 x10 (wrap64 (x11 + 1))) else (soft_nan.l0 k x5 true x9 x10 (wrap64 (x11 + 1))))) else (soft_nan.l0 k x5 x6 x9 x10 (wrap64 (x11 + 1))))) else (none)) else (none)) else (some (9221120237041090560, x5, x6))
def soft_nan.f (k : Nat) (l0 : List Int) : Option (Int × Int × Bool) := soft_nan.l0 k 0 false l0 (l0.length : Int) 0
theorem soft_nan.mono_l : ∀ k, (∀ y0 y1 y2 y3 y4, LeO (soft_nan.l0 k y0 y1 y2 y3 y4) (soft_nan.l0 (k + 1) y0 y1 y2 y3 y4))
 | 0 => fun _ _ _ _ _ r h => by simp [soft_nan.l0] at h
 | k + 1 => by
  have ih0 := soft_nan.mono_l k
  ·
   intro y0 y1 y2 y3 y4
   unfold soft_nan.l0
   repeat' first
   | (with_reducible exact ih0 _ _ _ _ _)
   | (with_reducible exact word_Kind.mono _ _)
   | (with_reducible exact word_Signals.mono _ _)
   | (with_reducible exact LeO.refl _)
   | (with_reducible exact LeO.none _)
   | (with_reducible refine LeO.ite ?_ ?_)
   | (with_reducible refine LeO.bind ?_ (fun _ => ?_))
   | exact ih0 _ _ _ _ _
   | exact word_Kind.mono _ _
   | exact word_Signals.mono _ _
   | exact LeO.none _
   | refine LeO.ite ?_ ?_
   | refine LeO.bind ?_ (fun _ => ?_)
theorem soft_nan.mono : ∀ a0 k, LeO (soft_nan.f k a0) (soft_nan.f (k + 1) a0) := by
 intro a0 k
 have ih0 := soft_nan.mono_l k
 unfold soft_nan.f
 repeat' first
   | (with_reducible exact ih0 _ _ _ _ _)
   | (with_reducible exact word_Kind.mono _ _)
   | (with_reducible exact word_Signals.mono _ _)
   | (with_reducible exact LeO.refl _)
   | (with_reducible exact LeO.none _)
   | (with_reducible refine LeO.ite ?_ ?_)
   | (with_reducible refine LeO.bind ?_ (fun _ => ?_))
   | exact ih0 _ _ _ _ _
   | exact word_Kind.mono _ _
   | exact word_Signals.mono _ _
   | exact LeO.none _
   | refine LeO.ite ?_ ?_
   | refine LeO.bind ?_ (fun _ => ?_)
set_option maxHeartbeats 8000000 in
set_option maxRecDepth 100000 in
theorem soft_nan.calls (k : Nat) (A0 : Option Addr) (c0 : Nat) (l0 : List Int) (r1 : Int) (r2 : Int) (r3 : Bool) (w : World) (hr0 : Kd.C (Kd.int .u64) w A0 l0.length l0) (hc0 : l0.length ≤ c0) (h : soft_nan.f k l0 = some (r1, r2, r3)) :
  Calls Try.prog 53 #[.slice A0 l0.length c0] w fun e w' => e = .returned (.tuple #[.int .u64 r1, .int .u8 r2, .bool r3]) ∧ Drawn0 w w' := by
 have HR0 := Aside0.mk hr0
 have HC0 := Aside0.mk hc0
 clear hr0 hc0
 have H : (soft_nan.l0 k 0 false l0 (l0.length : Int) 0) = some (r1, r2, r3) := h
 clear h
 have H' := Aside0.mk H
 clear H
 go_enter Try.func53, Try.ntmps53
 go_wp2
 go_loopg [5, 6, 11] k (fun kq v5 v6 v11 w' => ∃ (x5_1 : Int) (x6_1 : Bool) (x11_1 : Int), v5 = .int .u8 x5_1 ∧ v6 = .bool x6_1 ∧ v11 = .int .i64 x11_1 ∧ Aside0 (soft_nan.l0 kq x5_1 x6_1 l0 (l0.length : Int) x11_1 = some (r1, r2, r3)) ∧ Aside0 (kq ≤ k) ∧ Drawn0 w w')
 case atStart => exact ⟨(0), (false), (0), (by first | rfl | (simp; done) | (simp [*]; done)), (by first | rfl | (simp; done) | (simp [*]; done)), (by first | rfl | (simp; done) | (simp [*]; done)), H', ⟨Nat.le_refl _⟩, by repeat (first | exact Drawn0.refl _ | apply Drawn0.step)⟩
 case round =>
  clear H'
  obtain ⟨x5_1, x6_1, x11_1, rfl, rfl, rfl, HA, HK1, ⟨m1, rfl⟩⟩ := hrel
  cases gk with
  | zero => exact absurd HA.out (by simp [soft_nan.l0])
  | succ k1 =>
   have H := HA.out
   clear HA
   simp only [soft_nan.l0] at H
   by_cases c2 : x11_1 < (l0.length : Int)
   ·
    rw [if_pos c2] at H
    have c2b0 : decide (x11_1 < (l0.length : Int)) = true := decide_eq_true c2
    clear c2
    by_cases c3 : 0 ≤ x11_1
    ·
     rw [if_pos c3] at H
     have c3b0 : decide (0 ≤ x11_1) = true := decide_eq_true c3
     clear c3
     by_cases c4 : x11_1 < (l0.length : Int)
     ·
      rw [if_pos c4] at H
      have c4b0 : decide (x11_1 < (l0.length : Int)) = true := decide_eq_true c4
      clear c4
      obtain ⟨t517, A50, H⟩ := Option.bind_eq_some_iff.mp H
      (try dsimp -simprocs only at H)
      have A5 := Aside0.mk A50
      clear A50
      by_cases c6 : t517 = 5
      ·
       rw [if_pos c6] at H
       have c6b0 : (t517 == 5) = true := beq_iff_eq.mpr c6
       have c6b1 : (t517 != 5) = false := bne_eq_false_iff_eq.mpr c6
       clear c6
       obtain ⟨t518, A70, H⟩ := Option.bind_eq_some_iff.mp H
       (try dsimp -simprocs only at H)
       have A7 := Aside0.mk A70
       clear A70
       by_cases c8 : t518 = true
       ·
        subst c8
        rw [if_pos rfl] at H
        have H' := Aside0.mk H
        clear H
        have p516 : 0 ≤ (x11_1 : Int) := of_decide_eq_true (by first | (with_reducible assumption) | assumption)
        have q516 : x11_1 < (l0.length : Int) := of_decide_eq_true (by first | (with_reducible assumption) | assumption)
        obtain ⟨ad516, e516, hx516_0⟩ := Kd.at_int HR0.out x11_1 p516 q516
        cases e516
        replace p516 := eq_true p516
        replace q516 := eq_true q516
        go_wp2_with (first | ((with_reducible refine gate_callee (f := 26) rfl ?_); refine goesL_ (some 16) rfl rfl Try.func26 (by kernel_rfl) rfl #[.int .u64 (rd l0 x11_1)] rfl ga ?_; (with_reducible refine (word_Kind.calls k1 (rd l0 x11_1) t517 _ A5.out).mono ?_); rintro e w' ⟨rfl, ⟨nd, rfl⟩⟩; refine ⟨_, rfl, ?_⟩) | ((with_reducible refine gate_callee (f := 36) rfl ?_); refine goesL_ (some 19) rfl rfl Try.func36 (by kernel_rfl) rfl #[.int .u64 (rd l0 x11_1)] rfl ga ?_; (with_reducible refine (word_Signals.calls k1 (rd l0 x11_1) true _ A7.out).mono ?_); rintro e w' ⟨rfl, ⟨nd, rfl⟩⟩; refine ⟨_, rfl, ?_⟩))
        go_roundg k1
        case measure => have := HK1.out; omega
        case rel => exact ⟨(16), (true), (wrap64 (x11_1 + 1)), (by first | rfl | (simp; done) | (simp [*]; done)), (by first | rfl | (simp; done) | (simp [*]; done)), (by first | rfl | (simp; done) | (simp [*]; done)), H', ⟨by have := HK1.out; omega⟩, by repeat (first | exact Drawn0.refl _ | apply Drawn0.step)⟩
       ·
        replace c8 := Bool.eq_false_iff.mpr c8
        subst c8
        rw [if_neg (show ¬ (false = true) by decide)] at H
        have H' := Aside0.mk H
        clear H
        have p516 : 0 ≤ (x11_1 : Int) := of_decide_eq_true (by first | (with_reducible assumption) | assumption)
        have q516 : x11_1 < (l0.length : Int) := of_decide_eq_true (by first | (with_reducible assumption) | assumption)
        obtain ⟨ad516, e516, hx516_0⟩ := Kd.at_int HR0.out x11_1 p516 q516
        cases e516
        replace p516 := eq_true p516
        replace q516 := eq_true q516
        go_wp2_with (first | ((with_reducible refine gate_callee (f := 26) rfl ?_); refine goesL_ (some 16) rfl rfl Try.func26 (by kernel_rfl) rfl #[.int .u64 (rd l0 x11_1)] rfl ga ?_; (with_reducible refine (word_Kind.calls k1 (rd l0 x11_1) t517 _ A5.out).mono ?_); rintro e w' ⟨rfl, ⟨nd, rfl⟩⟩; refine ⟨_, rfl, ?_⟩) | ((with_reducible refine gate_callee (f := 36) rfl ?_); refine goesL_ (some 19) rfl rfl Try.func36 (by kernel_rfl) rfl #[.int .u64 (rd l0 x11_1)] rfl ga ?_; (with_reducible refine (word_Signals.calls k1 (rd l0 x11_1) false _ A7.out).mono ?_); rintro e w' ⟨rfl, ⟨nd, rfl⟩⟩; refine ⟨_, rfl, ?_⟩))
        go_roundg k1
        case measure => have := HK1.out; omega
        case rel => exact ⟨(x5_1), (true), (wrap64 (x11_1 + 1)), (by first | rfl | (simp; done) | (simp [*]; done)), (by first | rfl | (simp; done) | (simp [*]; done)), (by first | rfl | (simp; done) | (simp [*]; done)), H', ⟨by have := HK1.out; omega⟩, by repeat (first | exact Drawn0.refl _ | apply Drawn0.step)⟩
      ·
       rw [if_neg c6] at H
       have c6b0 : (t517 == 5) = false := beq_eq_false_iff_ne.mpr c6
       have c6b1 : (t517 != 5) = true := bne_iff_ne.mpr c6
       have H' := Aside0.mk H
       clear H
       have p516 : 0 ≤ (x11_1 : Int) := of_decide_eq_true (by first | (with_reducible assumption) | assumption)
       have q516 : x11_1 < (l0.length : Int) := of_decide_eq_true (by first | (with_reducible assumption) | assumption)
       obtain ⟨ad516, e516, hx516_0⟩ := Kd.at_int HR0.out x11_1 p516 q516
       cases e516
       replace p516 := eq_true p516
       replace q516 := eq_true q516
       go_wp2_with (first | ((with_reducible refine gate_callee (f := 26) rfl ?_); refine goesL_ (some 16) rfl rfl Try.func26 (by kernel_rfl) rfl #[.int .u64 (rd l0 x11_1)] rfl ga ?_; (with_reducible refine (word_Kind.calls k1 (rd l0 x11_1) t517 _ A5.out).mono ?_); rintro e w' ⟨rfl, ⟨nd, rfl⟩⟩; refine ⟨_, rfl, ?_⟩))
       go_roundg k1
       case measure => have := HK1.out; omega
       case rel => exact ⟨(x5_1), (x6_1), (wrap64 (x11_1 + 1)), (by first | rfl | (simp; done) | (simp [*]; done)), (by first | rfl | (simp; done) | (simp [*]; done)), (by first | rfl | (simp; done) | (simp [*]; done)), H', ⟨by have := HK1.out; omega⟩, by repeat (first | exact Drawn0.refl _ | apply Drawn0.step)⟩
     ·
      rw [if_neg c4] at H
      exact absurd H (by simp)
    ·
     rw [if_neg c3] at H
     exact absurd H (by simp)
   ·
    rw [if_neg c2] at H
    have c2b0 : decide (x11_1 < (l0.length : Int)) = false := decide_eq_false c2
    clear c2
    simp only [Option.some.injEq, Prod.mk.injEq] at H
    obtain ⟨rfl, rfl, rfl⟩ := H
    go_wp2
    go_ret3
    exact ⟨by first | rfl | (simp; done) | (simp [*]; done), by repeat (first | exact Drawn0.refl _ | apply Drawn0.step)⟩

/-! ### soft_Mul: function 27 -/
def soft_Mul.j0 : Nat → Int → Int → Bool → Int → Int → Bool → Option (Int × Int)
 | 0, _, _, _, _, _, _ => none
 | k + 1, x0, x1, x9, x10, x11, x36 => if x36 = true then (some (9221120237041090560, 16)) else (if x10 = 4 then ((word_Make.f x9 2047 0).bind fun t529 => (some (t529, 0))) else (if x11 = 4 then ((word_Make.f x9 2047 0).bind fun t530 => (some (t530, 0))) else ((word_Parts.f k x0).bind fun bt531 => ((word_Parts.f k x1).bind fun bt533 => ((wide_Mul.f bt531.1 bt533.1).bind fun bt535 => ((round_Round.f k x9 bt535.1 bt535.2 (wrap64 (bt531.2 + bt533.2)) false).bind fun bt537 => (some (bt537.1, bt537.2))))))))
def soft_Mul.f (k : Nat) (a0 : Int) (a1 : Int) : Option (Int × Int) := (soft_nan.f k (([a0, a1] : List Int))).bind fun bt522 => (if bt522.2.2 = true then (some (bt522.1, bt522.2.1)) else ((word_Neg.f a0).bind fun t525 => ((word_Neg.f a1).bind fun t526 => ((word_Kind.f k a0).bind fun t527 => ((word_Kind.f k a1).bind fun t528 => (if t527 = 4 then (if t528 = 1 then (soft_Mul.j0 k a0 a1 (t525 != t526) t527 t528 true) else (if t527 = 1 then (soft_Mul.j0 k a0 a1 (t525 != t526) t527 t528 (t528 == 4)) else (soft_Mul.j0 k a0 a1 (t525 != t526) t527 t528 false))) else (if t527 = 1 then (soft_Mul.j0 k a0 a1 (t525 != t526) t527 t528 (t528 == 4)) else (soft_Mul.j0 k a0 a1 (t525 != t526) t527 t528 false))))))))
theorem soft_Mul.mono_l : ∀ k, (∀ y0 y1 y2 y3 y4 y5, LeO (soft_Mul.j0 k y0 y1 y2 y3 y4 y5) (soft_Mul.j0 (k + 1) y0 y1 y2 y3 y4 y5))
 | 0 => fun _ _ _ _ _ _ r h => by simp [soft_Mul.j0] at h
 | k + 1 => by
  have ih0 := soft_Mul.mono_l k
  ·
   intro y0 y1 y2 y3 y4 y5
   unfold soft_Mul.j0
   repeat' first
   | (with_reducible exact ih0 _ _ _ _ _ _)
   | (with_reducible exact round_Round.mono _ _ _ _ _ _)
   | (with_reducible exact soft_nan.mono _ _)
   | (with_reducible exact word_Kind.mono _ _)
   | (with_reducible exact word_Parts.mono _ _)
   | (with_reducible exact LeO.refl _)
   | (with_reducible exact LeO.none _)
   | (with_reducible refine LeO.ite ?_ ?_)
   | (with_reducible refine LeO.bind ?_ (fun _ => ?_))
   | exact ih0 _ _ _ _ _ _
   | exact round_Round.mono _ _ _ _ _ _
   | exact soft_nan.mono _ _
   | exact word_Kind.mono _ _
   | exact word_Parts.mono _ _
   | exact LeO.none _
   | refine LeO.ite ?_ ?_
   | refine LeO.bind ?_ (fun _ => ?_)
theorem soft_Mul.mono : ∀ a0 a1 k, LeO (soft_Mul.f k a0 a1) (soft_Mul.f (k + 1) a0 a1) := by
 intro a0 a1 k
 have ih0 := soft_Mul.mono_l k
 unfold soft_Mul.f
 repeat' first
   | (with_reducible exact ih0 _ _ _ _ _ _)
   | (with_reducible exact round_Round.mono _ _ _ _ _ _)
   | (with_reducible exact soft_nan.mono _ _)
   | (with_reducible exact word_Kind.mono _ _)
   | (with_reducible exact word_Parts.mono _ _)
   | (with_reducible exact LeO.refl _)
   | (with_reducible exact LeO.none _)
   | (with_reducible refine LeO.ite ?_ ?_)
   | (with_reducible refine LeO.bind ?_ (fun _ => ?_))
   | exact ih0 _ _ _ _ _ _
   | exact round_Round.mono _ _ _ _ _ _
   | exact soft_nan.mono _ _
   | exact word_Kind.mono _ _
   | exact word_Parts.mono _ _
   | exact LeO.none _
   | refine LeO.ite ?_ ?_
   | refine LeO.bind ?_ (fun _ => ?_)
set_option maxHeartbeats 8000000 in
set_option maxRecDepth 100000 in
theorem soft_Mul.calls (k : Nat) (a0 : Int) (a1 : Int) (r1 : Int) (r2 : Int) (w : World) (h : soft_Mul.f k a0 a1 = some (r1, r2)) :
  Calls Try.prog 27 #[.int .u64 a0, .int .u64 a1] w fun e w' => e = .returned (.tuple #[.int .u64 r1, .int .u8 r2]) ∧ Below w.heap.size w w' := by
 have HB := Aside0.mk (Below.refl w.heap.size w)
 have H : ((soft_nan.f k (([a0, a1] : List Int))).bind fun bt522 => (if bt522.2.2 = true then (some (bt522.1, bt522.2.1)) else ((word_Neg.f a0).bind fun t525 => ((word_Neg.f a1).bind fun t526 => ((word_Kind.f k a0).bind fun t527 => ((word_Kind.f k a1).bind fun t528 => (if t527 = 4 then (if t528 = 1 then (soft_Mul.j0 k a0 a1 (t525 != t526) t527 t528 true) else (if t527 = 1 then (soft_Mul.j0 k a0 a1 (t525 != t526) t527 t528 (t528 == 4)) else (soft_Mul.j0 k a0 a1 (t525 != t526) t527 t528 false))) else (if t527 = 1 then (soft_Mul.j0 k a0 a1 (t525 != t526) t527 t528 (t528 == 4)) else (soft_Mul.j0 k a0 a1 (t525 != t526) t527 t528 false))))))))) = some (r1, r2) := h
 clear h
 obtain ⟨y519, hy519⟩ : ∃ y_ : List Int, y_ = (([a0, a1] : List Int)) := ⟨_, rfl⟩
 replace H : ((soft_nan.f k y519).bind fun bt522 => (if bt522.2.2 = true then (some (bt522.1, bt522.2.1)) else ((word_Neg.f a0).bind fun t525 => ((word_Neg.f a1).bind fun t526 => ((word_Kind.f k a0).bind fun t527 => ((word_Kind.f k a1).bind fun t528 => (if t527 = 4 then (if t528 = 1 then (soft_Mul.j0 k a0 a1 (t525 != t526) t527 t528 true) else (if t527 = 1 then (soft_Mul.j0 k a0 a1 (t525 != t526) t527 t528 (t528 == 4)) else (soft_Mul.j0 k a0 a1 (t525 != t526) t527 t528 false))) else (if t527 = 1 then (soft_Mul.j0 k a0 a1 (t525 != t526) t527 t528 (t528 == 4)) else (soft_Mul.j0 k a0 a1 (t525 != t526) t527 t528 false))))))))) = some (r1, r2) := by first | (rw [hy519]; with_reducible exact H) | (have H2_ := (Option.bind_some _ _).symm.trans H; rw [hy519]; with_reducible exact H2_) | (have H2_ := (Option.bind_some _ _).symm.trans H; with_reducible exact H2_) | with_reducible exact H | (rw [hy519]; exact H) | exact H
 have Ny519 := Aside0.mk hy519
 clear hy519
 obtain ⟨⟨t522, t523, t524⟩, A30, H⟩ := Option.bind_eq_some_iff.mp H
 (try dsimp -simprocs only at H)
 have A3 := Aside0.mk A30
 clear A30
 by_cases c4 : t524 = true
 ·
  subst c4
  rw [if_pos rfl] at H
  simp only [Option.some.injEq, Prod.mk.injEq] at H
  obtain ⟨rfl, rfl⟩ := H
  go_enter Try.func27, Try.ntmps27
  go_wp2_with (first | ((with_reducible refine gate_dst (N := 19) rfl ?_); refine Kd.R_lit (Kd.int .u64) _ 22 ?hg (N := 19) ?hd (xs := ([a0, a1] : List Int)) (inner := [.int .u64 a0, .int .u64 a1]) (ok := fun _ => True) (okp := fun _ => True) ?hr ?hp (fun _ hk => hk) trivial (Below.refl _ _) (Nat.le_refl _) (by simp) ?_; (case hd => rfl); (case hg => rfl); (case hr => first | (go_simp; done) | (go_simp; rfl)); (case hp => exact (Reps.one (show Kd.M (Kd.int .u64) _ _ _ a0 [.int .u64 a0] from rfl) (Reps.one (show Kd.M (Kd.int .u64) _ _ _ a1 [.int .u64 a1] from rfl) (Reps.none _ _)))); intro v520 w5 ho6 hb hg_ hnew_; clear hg_ hnew_; (first | rw [← Ny519.out] at ho6 | (simp only [Int.reduceToNat] at ho6; rw [← Ny519.out] at ho6)); have n0_ := Aside0.mk (Kd.R_lower ho6 (below_size bel)); have n1_ := Aside0.mk (below_step bel hb); clear HB; have HO521 := n0_; have HB := n1_; clear n0_ n1_; clear hb ho6; obtain ⟨Ao7, co7, eo7⟩ := Kd.R_slice HO521.out; subst eo7) | ((with_reducible refine gate_callee (f := 53) rfl ?_); refine goesL_ (some 20) rfl rfl Try.func53 (by kernel_rfl) rfl #[.slice Ao7 y519.length co7] rfl ga ?_; (with_reducible refine (soft_nan.calls k _ _ y519 t522 t523 true _ ?side1 ?side2 A3.out).mono ?_); (case side1 => exact ks HO521); (case side2 => exact (Kd.R_reads' HO521.out).2.1); rintro e w' ⟨rfl, ⟨nd, rfl⟩⟩; refine ⟨_, rfl, ?_⟩))
  go_ret2
  exact ⟨er, bel⟩
 ·
  replace c4 := Bool.eq_false_iff.mpr c4
  subst c4
  rw [if_neg (show ¬ (false = true) by decide)] at H
  obtain ⟨t525, A80, H⟩ := Option.bind_eq_some_iff.mp H
  (try dsimp -simprocs only at H)
  have A8 := Aside0.mk A80
  clear A80
  obtain ⟨t526, A90, H⟩ := Option.bind_eq_some_iff.mp H
  (try dsimp -simprocs only at H)
  have A9 := Aside0.mk A90
  clear A90
  obtain ⟨t527, A100, H⟩ := Option.bind_eq_some_iff.mp H
  (try dsimp -simprocs only at H)
  have A10 := Aside0.mk A100
  clear A100
  obtain ⟨t528, A110, H⟩ := Option.bind_eq_some_iff.mp H
  (try dsimp -simprocs only at H)
  have A11 := Aside0.mk A110
  clear A110
  have HC12 := Aside0.mk H
  clear H
  go_enter Try.func27, Try.ntmps27
  go_upto_region 6 with (first | ((with_reducible refine gate_dst (N := 19) rfl ?_); refine Kd.R_lit (Kd.int .u64) _ 22 ?hg (N := 19) ?hd (xs := ([a0, a1] : List Int)) (inner := [.int .u64 a0, .int .u64 a1]) (ok := fun _ => True) (okp := fun _ => True) ?hr ?hp (fun _ hk => hk) trivial (Below.refl _ _) (Nat.le_refl _) (by simp) ?_; (case hd => rfl); (case hg => rfl); (case hr => first | (go_simp; done) | (go_simp; rfl)); (case hp => exact (Reps.one (show Kd.M (Kd.int .u64) _ _ _ a0 [.int .u64 a0] from rfl) (Reps.one (show Kd.M (Kd.int .u64) _ _ _ a1 [.int .u64 a1] from rfl) (Reps.none _ _)))); intro v520 w13 ho14 hb hg_ hnew_; clear hg_ hnew_; (first | rw [← Ny519.out] at ho14 | (simp only [Int.reduceToNat] at ho14; rw [← Ny519.out] at ho14)); have n0_ := Aside0.mk (Kd.R_lower ho14 (below_size bel)); have n1_ := Aside0.mk (below_step bel hb); clear HB; have HO521 := n0_; have HB := n1_; clear n0_ n1_; clear hb ho14; obtain ⟨Ao15, co15, eo15⟩ := Kd.R_slice HO521.out; subst eo15) | ((with_reducible refine gate_callee (f := 53) rfl ?_); refine goesL_ (some 20) rfl rfl Try.func53 (by kernel_rfl) rfl #[.slice Ao15 y519.length co15] rfl ga ?_; (with_reducible refine (soft_nan.calls k _ _ y519 t522 t523 false _ ?side1 ?side2 A3.out).mono ?_); (case side1 => exact ks HO521); (case side2 => exact (Kd.R_reads' HO521.out).2.1); rintro e w' ⟨rfl, ⟨nd, rfl⟩⟩; refine ⟨_, rfl, ?_⟩) | ((with_reducible refine gate_callee (f := 21) rfl ?_); refine goesL_ (some 28) rfl rfl Try.func21 (by kernel_rfl) rfl #[.int .u64 a0] rfl ga ?_; (with_reducible refine (word_Neg.calls a0 t525 _ A8.out).mono ?_); rintro e w' ⟨rfl, ⟨nd, rfl⟩⟩; refine ⟨_, rfl, ?_⟩) | ((with_reducible refine gate_callee (f := 21) rfl ?_); refine goesL_ (some 30) rfl rfl Try.func21 (by kernel_rfl) rfl #[.int .u64 a1] rfl ga ?_; (with_reducible refine (word_Neg.calls a1 t526 _ A9.out).mono ?_); rintro e w' ⟨rfl, ⟨nd, rfl⟩⟩; refine ⟨_, rfl, ?_⟩) | ((with_reducible refine gate_callee (f := 26) rfl ?_); refine goesL_ (some 33) rfl rfl Try.func26 (by kernel_rfl) rfl #[.int .u64 a0] rfl ga ?_; (with_reducible refine (word_Kind.calls k a0 t527 _ A10.out).mono ?_); rintro e w' ⟨rfl, ⟨nd, rfl⟩⟩; refine ⟨_, rfl, ?_⟩) | ((with_reducible refine gate_callee (f := 26) rfl ?_); refine goesL_ (some 35) rfl rfl Try.func26 (by kernel_rfl) rfl #[.int .u64 a1] rfl ga ?_; (with_reducible refine (word_Kind.calls k a1 t528 _ A11.out).mono ?_); rintro e w' ⟨rfl, ⟨nd, rfl⟩⟩; refine ⟨_, rfl, ?_⟩))
  (try simp only [Act.put, List.setIfInBounds_toArray, List.set_cons_zero, List.set_cons_succ])
  go_cut [9, 36] (fun v9 v36 wc => ∃ (kq : Nat) (x9_11 : Bool) (x36_11 : Bool), v9 = .bool x9_11 ∧ v36 = .bool x36_11 ∧ Aside0 (soft_Mul.j0 kq a0 a1 x9_11 t527 t528 x36_11 = some (r1, r2)) ∧ Aside0 (kq ≤ k) ∧ Aside0 (Below w.heap.size w wc))
  case first =>
   have H := HC12.out
   clear HC12
   by_cases c16 : t527 = 4
   ·
    rw [if_pos c16] at H
    have c16b0 : (t527 == 4) = true := beq_iff_eq.mpr c16
    have c16b1 : (t527 != 4) = false := bne_eq_false_iff_eq.mpr c16
    clear c16
    (first | rw [c16b0] | (simp only [i64_w, i32_w]; rw [c16b0]) | skip)
    by_cases c17 : t528 = 1
    ·
     rw [if_pos c17] at H
     have c17b0 : (t528 == 1) = true := beq_iff_eq.mpr c17
     have c17b1 : (t528 != 1) = false := bne_eq_false_iff_eq.mpr c17
     clear c17
     have H' := Aside0.mk H
     clear H
     go_wp2
     go_meet
     case rel => exact ⟨_, ((t525 != t526)), (true), (by first | rfl | (simp; done) | (simp [*]; done)), (by first | rfl | (simp; done) | (simp [*]; done)), H', ⟨by first | omega | exact Nat.le_refl _⟩, ⟨bel⟩⟩
    ·
     rw [if_neg c17] at H
     have c17b0 : (t528 == 1) = false := beq_eq_false_iff_ne.mpr c17
     have c17b1 : (t528 != 1) = true := bne_iff_ne.mpr c17
     by_cases c18 : t527 = 1
     ·
      rw [if_pos c18] at H
      have c18b0 : (t527 == 1) = true := beq_iff_eq.mpr c18
      have c18b1 : (t527 != 1) = false := bne_eq_false_iff_eq.mpr c18
      clear c18
      have H' := Aside0.mk H
      clear H
      go_wp2
      go_meet
      case rel => exact ⟨_, ((t525 != t526)), ((t528 == 4)), (by first | rfl | (simp; done) | (simp [*]; done)), (by first | rfl | (simp; done) | (simp [*]; done)), H', ⟨by first | omega | exact Nat.le_refl _⟩, ⟨bel⟩⟩
     ·
      rw [if_neg c18] at H
      have c18b0 : (t527 == 1) = false := beq_eq_false_iff_ne.mpr c18
      have c18b1 : (t527 != 1) = true := bne_iff_ne.mpr c18
      have H' := Aside0.mk H
      clear H
      go_wp2
      go_meet
      case rel => exact ⟨_, ((t525 != t526)), (false), (by first | rfl | (simp; done) | (simp [*]; done)), (by first | rfl | (simp; done) | (simp [*]; done)), H', ⟨by first | omega | exact Nat.le_refl _⟩, ⟨bel⟩⟩
   ·
    rw [if_neg c16] at H
    have c16b0 : (t527 == 4) = false := beq_eq_false_iff_ne.mpr c16
    have c16b1 : (t527 != 4) = true := bne_iff_ne.mpr c16
    (first | rw [c16b0] | (simp only [i64_w, i32_w]; rw [c16b0]) | skip)
    by_cases c19 : t527 = 1
    ·
     rw [if_pos c19] at H
     have c19b0 : (t527 == 1) = true := beq_iff_eq.mpr c19
     have c19b1 : (t527 != 1) = false := bne_eq_false_iff_eq.mpr c19
     clear c19
     have H' := Aside0.mk H
     clear H
     go_wp2
     go_meet
     case rel => exact ⟨_, ((t525 != t526)), ((t528 == 4)), (by first | rfl | (simp; done) | (simp [*]; done)), (by first | rfl | (simp; done) | (simp [*]; done)), H', ⟨by first | omega | exact Nat.le_refl _⟩, ⟨bel⟩⟩
    ·
     rw [if_neg c19] at H
     have c19b0 : (t527 == 1) = false := beq_eq_false_iff_ne.mpr c19
     have c19b1 : (t527 != 1) = true := bne_iff_ne.mpr c19
     have H' := Aside0.mk H
     clear H
     go_wp2
     go_meet
     case rel => exact ⟨_, ((t525 != t526)), (false), (by first | rfl | (simp; done) | (simp [*]; done)), (by first | rfl | (simp; done) | (simp [*]; done)), H', ⟨by first | omega | exact Nat.le_refl _⟩, ⟨bel⟩⟩
  case rest =>
   clear HC12
   try clear c1
   try clear c2
   try clear p2
   try clear c4
   try clear c5
   try clear c16
   try clear c16b0
   try clear c16b1
   try clear c17
   try clear c17b0
   try clear c17b1
   try clear c18
   try clear c18b0
   try clear c18b1
   try clear c19
   try clear c19b0
   try clear c19b1
   obtain ⟨kq, x9_11, x36_11, rfl, rfl, HA, HJ11, HB⟩ := hcut
   cases kq with
   | zero => exact absurd HA.out (by simp [soft_Mul.j0])
   | succ kj11 =>
    have H := HA.out
    clear HA
    simp only [soft_Mul.j0] at H
    by_cases c20 : x36_11 = true
    ·
     subst c20
     rw [if_pos rfl] at H
     simp only [Option.some.injEq, Prod.mk.injEq] at H
     obtain ⟨rfl, rfl⟩ := H
     go_wp2
     go_ret2
     exact ⟨er, bel⟩
    ·
     replace c20 := Bool.eq_false_iff.mpr c20
     subst c20
     rw [if_neg (show ¬ (false = true) by decide)] at H
     by_cases c21 : t527 = 4
     ·
      rw [if_pos c21] at H
      have c21b0 : (t527 == 4) = true := beq_iff_eq.mpr c21
      have c21b1 : (t527 != 4) = false := bne_eq_false_iff_eq.mpr c21
      clear c21
      obtain ⟨t529, A220, H⟩ := Option.bind_eq_some_iff.mp H
      (try dsimp -simprocs only at H)
      have A22 := Aside0.mk A220
      clear A220
      simp only [Option.some.injEq, Prod.mk.injEq] at H
      obtain ⟨rfl, rfl⟩ := H
      go_wp2_with (first | ((with_reducible refine gate_callee (f := 31) rfl ?_); refine goesL_ (some 59) rfl rfl Try.func31 (by kernel_rfl) rfl #[.bool x9_11, .int .i64 2047, .int .u64 0] rfl ga ?_; (with_reducible refine (word_Make.calls x9_11 2047 0 t529 _ A22.out).mono ?_); rintro e w' ⟨rfl, ⟨nd, rfl⟩⟩; refine ⟨_, rfl, ?_⟩))
      go_ret2
      exact ⟨er, bel⟩
     ·
      rw [if_neg c21] at H
      have c21b0 : (t527 == 4) = false := beq_eq_false_iff_ne.mpr c21
      have c21b1 : (t527 != 4) = true := bne_iff_ne.mpr c21
      by_cases c23 : t528 = 4
      ·
       rw [if_pos c23] at H
       have c23b0 : (t528 == 4) = true := beq_iff_eq.mpr c23
       have c23b1 : (t528 != 4) = false := bne_eq_false_iff_eq.mpr c23
       clear c23
       obtain ⟨t530, A240, H⟩ := Option.bind_eq_some_iff.mp H
       (try dsimp -simprocs only at H)
       have A24 := Aside0.mk A240
       clear A240
       simp only [Option.some.injEq, Prod.mk.injEq] at H
       obtain ⟨rfl, rfl⟩ := H
       go_wp2_with (first | ((with_reducible refine gate_callee (f := 31) rfl ?_); refine goesL_ (some 59) rfl rfl Try.func31 (by kernel_rfl) rfl #[.bool x9_11, .int .i64 2047, .int .u64 0] rfl ga ?_; (with_reducible refine (word_Make.calls x9_11 2047 0 t530 _ A24.out).mono ?_); rintro e w' ⟨rfl, ⟨nd, rfl⟩⟩; refine ⟨_, rfl, ?_⟩))
       go_ret2
       exact ⟨er, bel⟩
      ·
       rw [if_neg c23] at H
       have c23b0 : (t528 == 4) = false := beq_eq_false_iff_ne.mpr c23
       have c23b1 : (t528 != 4) = true := bne_iff_ne.mpr c23
       obtain ⟨⟨t531, t532⟩, A250, H⟩ := Option.bind_eq_some_iff.mp H
       (try dsimp -simprocs only at H)
       have A25 := Aside0.mk A250
       clear A250
       obtain ⟨⟨t533, t534⟩, A260, H⟩ := Option.bind_eq_some_iff.mp H
       (try dsimp -simprocs only at H)
       have A26 := Aside0.mk A260
       clear A260
       obtain ⟨⟨t535, t536⟩, A270, H⟩ := Option.bind_eq_some_iff.mp H
       (try dsimp -simprocs only at H)
       have A27 := Aside0.mk A270
       clear A270
       obtain ⟨⟨t537, t538⟩, A280, H⟩ := Option.bind_eq_some_iff.mp H
       (try dsimp -simprocs only at H)
       have A28 := Aside0.mk A280
       clear A280
       simp only [Option.some.injEq, Prod.mk.injEq] at H
       obtain ⟨rfl, rfl⟩ := H
       go_wp2_with (first | ((with_reducible refine gate_callee (f := 37) rfl ?_); refine goesL_ (some 62) rfl rfl Try.func37 (by kernel_rfl) rfl #[.int .u64 a0] rfl ga ?_; (with_reducible refine (word_Parts.calls kj11 a0 t531 t532 _ A25.out).mono ?_); rintro e w' ⟨rfl, ⟨nd, rfl⟩⟩; refine ⟨_, rfl, ?_⟩) | ((with_reducible refine gate_callee (f := 37) rfl ?_); refine goesL_ (some 67) rfl rfl Try.func37 (by kernel_rfl) rfl #[.int .u64 a1] rfl ga ?_; (with_reducible refine (word_Parts.calls kj11 a1 t533 t534 _ A26.out).mono ?_); rintro e w' ⟨rfl, ⟨nd, rfl⟩⟩; refine ⟨_, rfl, ?_⟩) | ((with_reducible refine gate_callee (f := 54) rfl ?_); refine goesL_ (some 73) rfl rfl Try.func54 (by kernel_rfl) rfl #[.int .u64 t531, .int .u64 t533] rfl ga ?_; (with_reducible refine (wide_Mul.calls t531 t533 t535 t536 _ A27.out).mono ?_); rintro e w29 ⟨rfl, hb⟩; refine ⟨_, rfl, ?_⟩; have n0_ := Aside0.mk (below_step bel hb); clear HB; have HB := n0_; clear n0_; (try clear hb)) | ((with_reducible refine gate_callee (f := 41) rfl ?_); refine goesL_ (some 77) rfl rfl Try.func41 (by kernel_rfl) rfl #[.bool x9_11, .agg #[.int .u64 t535, .int .u64 t536], .int .i64 (wrap64 (t532 + t534)), .bool false] rfl ga ?_; (with_reducible refine (round_Round.calls kj11 x9_11 t535 t536 (wrap64 (t532 + t534)) false t537 t538 _ A28.out).mono ?_); rintro e w30 ⟨rfl, hb⟩; refine ⟨_, rfl, ?_⟩; have n0_ := Aside0.mk (below_step bel hb); clear HB; have HB := n0_; clear n0_; (try clear hb)))
       go_ret2
       exact ⟨er, bel⟩

end Go.Proofs.Ytcappkphcjgeoaa.F
