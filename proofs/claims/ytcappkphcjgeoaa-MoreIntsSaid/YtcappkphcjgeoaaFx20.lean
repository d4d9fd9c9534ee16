-- Written by a program of this seat's session (mkprint), out of the translation.
import Derived.Test.YtcappkphcjgeoaaShort
import Derived.Test.YtcappkphcjgeoaaFx0
import Derived.Test.YtcappkphcjgeoaaFx2
import Derived.Test.YtcappkphcjgeoaaFx4
import Derived.Test.YtcappkphcjgeoaaFx5
import Derived.Test.YtcappkphcjgeoaaFx6
import Derived.Test.YtcappkphcjgeoaaFx8
import Derived.Test.YtcappkphcjgeoaaFx11
namespace Go.Proofs.Ytcappkphcjgeoaa.F
open Go.RowKit Go.Proofs.YtcappkphcjgeoaaW.PrintWords Go.Proofs.YtcappkphcjgeoaaW.PrintLast Go.Proofs.YtcappkphcjgeoaaW.PrintMore
attribute [local go_sem] max2_int min2_int max_two min_two max_three min_three max_four min_four   -- for this text's walks alone
set_option linter.unusedVariables false
set_option linter.unusedSimpArgs false

/-! ### more_FromInt: function 23 -/
def more_FromInt.f (k : Nat) (a0 : Int) : Option (Int × Int) := if a0 < 0 then ((round_Round.f k (decide (a0 < 0)) 0 (IntKind.u64.wrap (-(IntKind.u64.wrap (a0)))) 0 false).bind fun bt492 => (some (bt492.1, bt492.2))) else ((round_Round.f k (decide (a0 < 0)) 0 (IntKind.u64.wrap (a0)) 0 false).bind fun bt494 => (some (bt494.1, bt494.2)))
theorem more_FromInt.mono : ∀ a0 k, LeO (more_FromInt.f k a0) (more_FromInt.f (k + 1) a0) := by
 intro a0 k
 unfold more_FromInt.f
 repeat' first
   | (with_reducible exact round_Round.mono _ _ _ _ _ _)
   | (with_reducible exact LeO.refl _)
   | (with_reducible exact LeO.none _)
   | (with_reducible refine LeO.ite ?_ ?_)
   | (with_reducible refine LeO.bind ?_ (fun _ => ?_))
   | exact round_Round.mono _ _ _ _ _ _
   | exact LeO.none _
   | refine LeO.ite ?_ ?_
   | refine LeO.bind ?_ (fun _ => ?_)
set_option maxHeartbeats 8000000 in
set_option maxRecDepth 100000 in
theorem more_FromInt.calls (k : Nat) (a0 : Int) (r1 : Int) (r2 : Int) (w : World) (h : more_FromInt.f k a0 = some (r1, r2)) :
  Calls Try.prog 23 #[.int .i64 a0] w fun e w' => e = .returned (.tuple #[.int .u64 r1, .int .u8 r2]) ∧ Below w.heap.size w w' := by
 have hu55 := Try.underlying55
 have HB := Aside0.mk (Below.refl w.heap.size w)
 have H : (if a0 < 0 then ((round_Round.f k (decide (a0 < 0)) 0 (IntKind.u64.wrap (-(IntKind.u64.wrap (a0)))) 0 false).bind fun bt492 => (some (bt492.1, bt492.2))) else ((round_Round.f k (decide (a0 < 0)) 0 (IntKind.u64.wrap (a0)) 0 false).bind fun bt494 => (some (bt494.1, bt494.2)))) = some (r1, r2) := h
 clear h
 by_cases c2 : a0 < 0
 ·
  rw [if_pos c2] at H
  have c2b0 : decide (a0 < 0) = true := decide_eq_true c2
  clear c2
  obtain ⟨⟨t492, t493⟩, A30, H⟩ := Option.bind_eq_some_iff.mp H
  (try dsimp -simprocs only at H)
  have A3 := Aside0.mk A30
  clear A30
  simp only [Option.some.injEq, Prod.mk.injEq] at H
  obtain ⟨rfl, rfl⟩ := H
  go_enter Try.func23, Try.ntmps23
  go_wp2_with (first | ((with_reducible refine gate_callee (f := 41) rfl ?_); refine goesL_ (some 15) rfl rfl Try.func41 (by kernel_rfl) rfl #[.bool (decide (a0 < 0)), .agg #[.int .u64 0, .int .u64 (IntKind.u64.wrap (-(IntKind.u64.wrap (a0))))], .int .i64 0, .bool false] rfl (by (try simp only [List.map_toArray, List.map_cons, List.map_nil]); first | done | rfl | (rw [show (decide (a0 < 0)) = true from by assumption]; rfl) | (rw [show (decide (a0 < 0)) = false from by assumption]; rfl) | (simp only [List.length_drop, List.length_take]; rfl)) ?_; (with_reducible refine (round_Round.calls k (decide (a0 < 0)) 0 (IntKind.u64.wrap (-(IntKind.u64.wrap (a0)))) 0 false t492 t493 _ A3.out).mono ?_); rintro e w4 ⟨rfl, hb⟩; refine ⟨_, rfl, ?_⟩; have n0_ := Aside0.mk (below_step bel hb); clear HB; have HB := n0_; clear n0_; (try clear hb)))
  go_ret2
  exact ⟨er, bel⟩
 ·
  rw [if_neg c2] at H
  have c2b0 : decide (a0 < 0) = false := decide_eq_false c2
  clear c2
  obtain ⟨⟨t494, t495⟩, A50, H⟩ := Option.bind_eq_some_iff.mp H
  (try dsimp -simprocs only at H)
  have A5 := Aside0.mk A50
  clear A50
  simp only [Option.some.injEq, Prod.mk.injEq] at H
  obtain ⟨rfl, rfl⟩ := H
  go_enter Try.func23, Try.ntmps23
  go_wp2_with (first | ((with_reducible refine gate_callee (f := 41) rfl ?_); refine goesL_ (some 15) rfl rfl Try.func41 (by kernel_rfl) rfl #[.bool (decide (a0 < 0)), .agg #[.int .u64 0, .int .u64 (IntKind.u64.wrap (a0))], .int .i64 0, .bool false] rfl (by (try simp only [List.map_toArray, List.map_cons, List.map_nil]); first | done | rfl | (rw [show (decide (a0 < 0)) = true from by assumption]; rfl) | (rw [show (decide (a0 < 0)) = false from by assumption]; rfl) | (simp only [List.length_drop, List.length_take]; rfl)) ?_; (with_reducible refine (round_Round.calls k (decide (a0 < 0)) 0 (IntKind.u64.wrap (a0)) 0 false t494 t495 _ A5.out).mono ?_); rintro e w6 ⟨rfl, hb⟩; refine ⟨_, rfl, ?_⟩; have n0_ := Aside0.mk (below_step bel hb); clear HB; have HB := n0_; clear n0_; (try clear hb)))
  go_ret2
  exact ⟨er, bel⟩

/-! ### gimballaw05_MoreInts: function 6 -/
mutual
def gimballaw05_MoreInts.j0 : Nat → Int → Int → Int → Int → Option (Bool)
 | 0, _, _, _, _ => none
 | k + 1, x0, x3, x4, x5 => (gimbalref02_Of.f k x5).bind fun t499 => (if x4 = 0 then ((word_Neg.f x3).bind fun t502 => (if (t502 != (decide (x0 < 0))) = true then (gimballaw05_MoreInts.j1 k x0 x3 x4 t499 true) else ((word_Finite.f x3).bind fun t503 => (gimballaw05_MoreInts.j1 k x0 x3 x4 t499 (!t503))))) else (if x4 = 1 then ((word_Neg.f x3).bind fun t504 => (if (t504 != (decide (x0 < 0))) = true then (gimballaw05_MoreInts.j1 k x0 x3 x4 t499 true) else ((word_Finite.f x3).bind fun t505 => (gimballaw05_MoreInts.j1 k x0 x3 x4 t499 (!t505))))) else (gimballaw05_MoreInts.j1 k x0 x3 x4 t499 true)))
def gimballaw05_MoreInts.j1 : Nat → Int → Int → Int → List Int → Bool → Option (Bool)
 | 0, _, _, _, _, _ => none
 | k + 1, x0, x3, x4, x6, x43 => if x43 = true then (some false) else ((gimbalref04_Whole.f k x3).bind fun t506 => ((gimbalref02_Up.f k x6 1074).bind fun t509 => ((gimbalref02_Cmp.f k t506 t509).bind fun t512 => (if ((t512 == 0) != (x4 == 0)) = true then (some false) else ((more_ToInt.f k x3).bind fun bt513 => (if x4 = 0 then (if bt513.1 = x0 then (some (bt513.2 == 0)) else (some false)) else (if bt513.2 = 0 then (some true) else (if bt513.2 = 16 then (if bt513.1 = 0 then ((word_Abs.f x3).bind fun t515 => (some (t515 == 4890909195324358656))) else (some false)) else (some false)))))))))
end
def gimballaw05_MoreInts.f (k : Nat) (a0 : Int) : Option (Bool) := (gimballaw05_head.f k).bind fun t496 => (if t496 = true then ((more_FromInt.f k a0).bind fun bt497 => (if a0 < 0 then (gimballaw05_MoreInts.j0 k a0 bt497.1 bt497.2 (IntKind.u64.wrap (-(IntKind.u64.wrap (a0))))) else (gimballaw05_MoreInts.j0 k a0 bt497.1 bt497.2 (IntKind.u64.wrap (a0))))) else (some false))
theorem gimballaw05_MoreInts.mono_l : ∀ k, (∀ y0 y1 y2 y3, LeO (gimballaw05_MoreInts.j0 k y0 y1 y2 y3) (gimballaw05_MoreInts.j0 (k + 1) y0 y1 y2 y3)) ∧ (∀ y0 y1 y2 y3 y4, LeO (gimballaw05_MoreInts.j1 k y0 y1 y2 y3 y4) (gimballaw05_MoreInts.j1 (k + 1) y0 y1 y2 y3 y4))
 | 0 => ⟨fun _ _ _ _ r h => by simp [gimballaw05_MoreInts.j0] at h, fun _ _ _ _ _ r h => by simp [gimballaw05_MoreInts.j1] at h⟩
 | k + 1 => by
  obtain ⟨ih0, ih1⟩ := gimballaw05_MoreInts.mono_l k
  refine ⟨?_, ?_⟩
  ·
   intro y0 y1 y2 y3
   unfold gimballaw05_MoreInts.j0
   repeat' first
   | (with_reducible exact ih0 _ _ _ _)
   | (with_reducible exact ih1 _ _ _ _ _)
   | (with_reducible exact gimballaw05_head.mono _)
   | (with_reducible exact gimbalref02_Cmp.mono _ _ _)
   | (with_reducible exact gimbalref02_Of.mono _ _)
   | (with_reducible exact gimbalref02_Up.mono _ _ _)
   | (with_reducible exact gimbalref04_Whole.mono _ _)
   | (with_reducible exact more_FromInt.mono _ _)
   | (with_reducible exact more_ToInt.mono _ _)
   | (with_reducible exact LeO.refl _)
   | (with_reducible exact LeO.none _)
   | (with_reducible refine LeO.ite ?_ ?_)
   | (with_reducible refine LeO.bind ?_ (fun _ => ?_))
   | exact ih0 _ _ _ _
   | exact ih1 _ _ _ _ _
   | exact gimballaw05_head.mono _
   | exact gimbalref02_Cmp.mono _ _ _
   | exact gimbalref02_Of.mono _ _
   | exact gimbalref02_Up.mono _ _ _
   | exact gimbalref04_Whole.mono _ _
   | exact more_FromInt.mono _ _
   | exact more_ToInt.mono _ _
   | exact LeO.none _
   | refine LeO.ite ?_ ?_
   | refine LeO.bind ?_ (fun _ => ?_)
  ·
   intro y0 y1 y2 y3 y4
   unfold gimballaw05_MoreInts.j1
   repeat' first
   | (with_reducible exact ih0 _ _ _ _)
   | (with_reducible exact ih1 _ _ _ _ _)
   | (with_reducible exact gimballaw05_head.mono _)
   | (with_reducible exact gimbalref02_Cmp.mono _ _ _)
   | (with_reducible exact gimbalref02_Of.mono _ _)
   | (with_reducible exact gimbalref02_Up.mono _ _ _)
   | (with_reducible exact gimbalref04_Whole.mono _ _)
   | (with_reducible exact more_FromInt.mono _ _)
   | (with_reducible exact more_ToInt.mono _ _)
   | (with_reducible exact LeO.refl _)
   | (with_reducible exact LeO.none _)
   | (with_reducible refine LeO.ite ?_ ?_)
   | (with_reducible refine LeO.bind ?_ (fun _ => ?_))
   | exact ih0 _ _ _ _
   | exact ih1 _ _ _ _ _
   | exact gimballaw05_head.mono _
   | exact gimbalref02_Cmp.mono _ _ _
   | exact gimbalref02_Of.mono _ _
   | exact gimbalref02_Up.mono _ _ _
   | exact gimbalref04_Whole.mono _ _
   | exact more_FromInt.mono _ _
   | exact more_ToInt.mono _ _
   | exact LeO.none _
   | refine LeO.ite ?_ ?_
   | refine LeO.bind ?_ (fun _ => ?_)
theorem gimballaw05_MoreInts.mono : ∀ a0 k, LeO (gimballaw05_MoreInts.f k a0) (gimballaw05_MoreInts.f (k + 1) a0) := by
 intro a0 k
 obtain ⟨ih0, ih1⟩ := gimballaw05_MoreInts.mono_l k
 unfold gimballaw05_MoreInts.f
 repeat' first
   | (with_reducible exact ih0 _ _ _ _)
   | (with_reducible exact ih1 _ _ _ _ _)
   | (with_reducible exact gimballaw05_head.mono _)
   | (with_reducible exact gimbalref02_Cmp.mono _ _ _)
   | (with_reducible exact gimbalref02_Of.mono _ _)
   | (with_reducible exact gimbalref02_Up.mono _ _ _)
   | (with_reducible exact gimbalref04_Whole.mono _ _)
   | (with_reducible exact more_FromInt.mono _ _)
   | (with_reducible exact more_ToInt.mono _ _)
   | (with_reducible exact LeO.refl _)
   | (with_reducible exact LeO.none _)
   | (with_reducible refine LeO.ite ?_ ?_)
   | (with_reducible refine LeO.bind ?_ (fun _ => ?_))
   | exact ih0 _ _ _ _
   | exact ih1 _ _ _ _ _
   | exact gimballaw05_head.mono _
   | exact gimbalref02_Cmp.mono _ _ _
   | exact gimbalref02_Of.mono _ _
   | exact gimbalref02_Up.mono _ _ _
   | exact gimbalref04_Whole.mono _ _
   | exact more_FromInt.mono _ _
   | exact more_ToInt.mono _ _
   | exact LeO.none _
   | refine LeO.ite ?_ ?_
   | refine LeO.bind ?_ (fun _ => ?_)
set_option maxHeartbeats 8000000 in
set_option maxRecDepth 100000 in
theorem gimballaw05_MoreInts.calls (k : Nat) (a0 : Int) (r : Bool) (w : World) (h : gimballaw05_MoreInts.f k a0 = some r) :
  Calls Try.prog 6 #[.int .i64 a0] w fun e w' => e = .returned (.bool r) ∧ Below w.heap.size w w' := by
 have HB := Aside0.mk (Below.refl w.heap.size w)
 have H : ((gimballaw05_head.f k).bind fun t496 => (if t496 = true then ((more_FromInt.f k a0).bind fun bt497 => (if a0 < 0 then (gimballaw05_MoreInts.j0 k a0 bt497.1 bt497.2 (IntKind.u64.wrap (-(IntKind.u64.wrap (a0))))) else (gimballaw05_MoreInts.j0 k a0 bt497.1 bt497.2 (IntKind.u64.wrap (a0))))) else (some false))) = some r := h
 clear h
 obtain ⟨t496, A20, H⟩ := Option.bind_eq_some_iff.mp H
 (try dsimp -simprocs only at H)
 have A2 := Aside0.mk A20
 clear A20
 by_cases c3 : t496 = true
 ·
  subst c3
  rw [if_pos rfl] at H
  obtain ⟨⟨t497, t498⟩, A40, H⟩ := Option.bind_eq_some_iff.mp H
  (try dsimp -simprocs only at H)
  have A4 := Aside0.mk A40
  clear A40
  have HC5 := Aside0.mk H
  clear H
  go_enter Try.func6, Try.ntmps6
  go_upto_if 21 with (first | ((with_reducible refine gate_callee (f := 10) rfl ?_); refine goesL_ (some 11) rfl rfl Try.func10 (by kernel_rfl) rfl #[] rfl ga ?_; (with_reducible refine (gimballaw05_head.calls k  true _ A2.out).mono ?_); rintro e w6 ⟨rfl, hb⟩; refine ⟨_, rfl, ?_⟩; have n0_ := Aside0.mk (below_step bel hb); clear HB; have HB := n0_; clear n0_; (try clear hb)) | ((with_reducible refine gate_callee (f := 23) rfl ?_); refine goesL_ (some 15) rfl rfl Try.func23 (by kernel_rfl) rfl #[.int .i64 a0] rfl ga ?_; (with_reducible refine (more_FromInt.calls k a0 t497 t498 _ A4.out).mono ?_); rintro e w7 ⟨rfl, hb⟩; refine ⟨_, rfl, ?_⟩; have n0_ := Aside0.mk (below_step bel hb); clear HB; have HB := n0_; clear n0_; (try clear hb)))
  (try simp only [Act.put, List.setIfInBounds_toArray, List.set_cons_zero, List.set_cons_succ])
  go_cut [5] (fun v5 wc => ∃ (kq : Nat) (x5_4 : Int), v5 = .int .u64 x5_4 ∧ Aside0 (gimballaw05_MoreInts.j0 kq a0 t497 t498 x5_4 = some r) ∧ Aside0 (kq ≤ k) ∧ Aside0 (Below w.heap.size w wc))
  case first =>
   have H := HC5.out
   clear HC5
   by_cases c8 : a0 < 0
   ·
    rw [if_pos c8] at H
    have c8b0 : decide (a0 < 0) = true := decide_eq_true c8
    clear c8
    (first | rw [c8b0] | (simp only [i64_w, i32_w]; rw [c8b0]) | skip)
    have H' := Aside0.mk H
    clear H
    go_wp2
    go_meet
    case rel => exact ⟨_, (IntKind.u64.wrap (-(IntKind.u64.wrap (a0)))), (by first | rfl | (simp; done) | (simp [*]; done)), H', ⟨by first | omega | exact Nat.le_refl _⟩, ⟨bel⟩⟩
   ·
    rw [if_neg c8] at H
    have c8b0 : decide (a0 < 0) = false := decide_eq_false c8
    clear c8
    (first | rw [c8b0] | (simp only [i64_w, i32_w]; rw [c8b0]) | skip)
    have H' := Aside0.mk H
    clear H
    go_wp2
    go_meet
    case rel => exact ⟨_, (IntKind.u64.wrap (a0)), (by first | rfl | (simp; done) | (simp [*]; done)), H', ⟨by first | omega | exact Nat.le_refl _⟩, ⟨bel⟩⟩
  case rest =>
   clear HC5
   try clear c1
   try clear c2
   try clear p2
   try clear c3
   try clear c6
   try clear c8
   try clear c8b0
   obtain ⟨kq, x5_4, rfl, HA, HJ4, HB⟩ := hcut
   cases kq with
   | zero => exact absurd HA.out (by simp [gimballaw05_MoreInts.j0])
   | succ kj4 =>
    have H := HA.out
    clear HA
    simp only [gimballaw05_MoreInts.j0] at H
    obtain ⟨t499, A90, H⟩ := Option.bind_eq_some_iff.mp H
    (try dsimp -simprocs only at H)
    have A9 := Aside0.mk A90
    clear A90
    have HC10 := Aside0.mk H
    clear H
    go_upto_region 8 with (first | ((with_reducible refine gate_callee (f := 24) rfl ?_); refine goesL_ (some 25) rfl rfl Try.func24 (by kernel_rfl) rfl #[.int .u64 x5_4] rfl ga ?_; (with_reducible refine (gimbalref02_Of.calls kj4 x5_4 t499 _ A9.out).mono ?_); rintro e w11 ⟨v500, rfl, ho0, hb⟩; refine ⟨_, rfl, ?_⟩; have n0_ := Aside0.mk (Kd.R_lower ho0 (below_size bel)); have n1_ := Aside0.mk (below_step bel hb); clear HB; have HO501 := n0_; have HB := n1_; clear n0_ n1_; (try clear hb); (try clear ho0)))
    (try simp only [Act.put, List.setIfInBounds_toArray, List.set_cons_zero, List.set_cons_succ])
    go_cut [43] (fun v43 wc => ∃ (kq : Nat) (x43_9 : Bool), v43 = .bool x43_9 ∧ Aside0 (gimballaw05_MoreInts.j1 kq a0 t497 t498 t499 x43_9 = some r) ∧ Aside0 (kq ≤ kj4) ∧ Aside0 (Kd.R (Kd.int .i64) 3 wc w.heap.size (fun _ => True) v500 t499) ∧ Aside0 (Below w.heap.size w wc))
    case first =>
     have H := HC10.out
     clear HC10
     by_cases c12 : t498 = 0
     ·
      rw [if_pos c12] at H
      have c12b0 : (t498 == 0) = true := beq_iff_eq.mpr c12
      have c12b1 : (t498 != 0) = false := bne_eq_false_iff_eq.mpr c12
      clear c12
      (first | rw [c12b0] | (simp only [i64_w, i32_w]; rw [c12b0]) | skip)
      obtain ⟨t502, A130, H⟩ := Option.bind_eq_some_iff.mp H
      (try dsimp -simprocs only at H)
      have A13 := Aside0.mk A130
      clear A130
      by_cases c14 : (t502 != (decide (a0 < 0))) = true
      ·
       rw [if_pos c14] at H
       have c14b0 : (t502 != (decide (a0 < 0))) = true := c14
       (try (have c14b1 : decide (t502 = (decide (a0 < 0))) = false := by simpa using c14))
       (try (have c14b2 : (t502 == (decide (a0 < 0))) = false := by simpa using c14))
       (try (have c14b3 : ¬ (t502 = (decide (a0 < 0))) := by simpa using c14))
       clear c14
       have H' := Aside0.mk H
       clear H
       go_wp2_with (first | (go_at_call 21; (with_reducible refine (word_Neg.calls t497 t502 _ A13.out).mono ?_); rintro e w' ⟨rfl, ⟨nd, rfl⟩⟩))
       go_meet
       case rel => exact ⟨_, (true), (by first | rfl | (simp; done) | (simp [*]; done)), H', ⟨by have := HJ4.out; first | omega | exact Nat.le_refl _⟩, ⟨by (with_reducible repeat (first | apply Kd.R_alloc | apply Kd.R_drewN | apply Kd.R_drew)); exact HO501.out⟩, ⟨bel⟩⟩
      ·
       rw [if_neg c14] at H
       have c14b0 : (t502 != (decide (a0 < 0))) = false := by simpa using c14
       (try (have c14b1 : decide (t502 = (decide (a0 < 0))) = true := by simpa using c14))
       (try (have c14b2 : (t502 == (decide (a0 < 0))) = true := by simpa using c14))
       clear c14
       obtain ⟨t503, A150, H⟩ := Option.bind_eq_some_iff.mp H
       (try dsimp -simprocs only at H)
       have A15 := Aside0.mk A150
       clear A150
       have H' := Aside0.mk H
       clear H
       go_wp2_with (first | (go_at_call 21; (with_reducible refine (word_Neg.calls t497 t502 _ A13.out).mono ?_); rintro e w' ⟨rfl, ⟨nd, rfl⟩⟩) | (go_at_call 16; (with_reducible refine (word_Finite.calls t497 t503 _ A15.out).mono ?_); rintro e w' ⟨rfl, ⟨nd, rfl⟩⟩))
       go_meet
       case rel => exact ⟨_, (!t503), (by first | rfl | (simp; done) | (simp [*]; done)), H', ⟨by have := HJ4.out; first | omega | exact Nat.le_refl _⟩, ⟨by (with_reducible repeat (first | apply Kd.R_alloc | apply Kd.R_drewN | apply Kd.R_drew)); exact HO501.out⟩, ⟨bel⟩⟩
     ·
      rw [if_neg c12] at H
      have c12b0 : (t498 == 0) = false := beq_eq_false_iff_ne.mpr c12
      have c12b1 : (t498 != 0) = true := bne_iff_ne.mpr c12
      (first | rw [c12b0] | (simp only [i64_w, i32_w]; rw [c12b0]) | skip)
      by_cases c16 : t498 = 1
      ·
       rw [if_pos c16] at H
       have c16b0 : (t498 == 1) = true := beq_iff_eq.mpr c16
       have c16b1 : (t498 != 1) = false := bne_eq_false_iff_eq.mpr c16
       clear c16
       obtain ⟨t504, A170, H⟩ := Option.bind_eq_some_iff.mp H
       (try dsimp -simprocs only at H)
       have A17 := Aside0.mk A170
       clear A170
       by_cases c18 : (t504 != (decide (a0 < 0))) = true
       ·
        rw [if_pos c18] at H
        have c18b0 : (t504 != (decide (a0 < 0))) = true := c18
        (try (have c18b1 : decide (t504 = (decide (a0 < 0))) = false := by simpa using c18))
        (try (have c18b2 : (t504 == (decide (a0 < 0))) = false := by simpa using c18))
        (try (have c18b3 : ¬ (t504 = (decide (a0 < 0))) := by simpa using c18))
        clear c18
        have H' := Aside0.mk H
        clear H
        go_wp2_with (first | (go_at_call 21; (with_reducible refine (word_Neg.calls t497 t504 _ A17.out).mono ?_); rintro e w' ⟨rfl, ⟨nd, rfl⟩⟩))
        go_meet
        case rel => exact ⟨_, (true), (by first | rfl | (simp; done) | (simp [*]; done)), H', ⟨by have := HJ4.out; first | omega | exact Nat.le_refl _⟩, ⟨by (with_reducible repeat (first | apply Kd.R_alloc | apply Kd.R_drewN | apply Kd.R_drew)); exact HO501.out⟩, ⟨bel⟩⟩
       ·
        rw [if_neg c18] at H
        have c18b0 : (t504 != (decide (a0 < 0))) = false := by simpa using c18
        (try (have c18b1 : decide (t504 = (decide (a0 < 0))) = true := by simpa using c18))
        (try (have c18b2 : (t504 == (decide (a0 < 0))) = true := by simpa using c18))
        clear c18
        obtain ⟨t505, A190, H⟩ := Option.bind_eq_some_iff.mp H
        (try dsimp -simprocs only at H)
        have A19 := Aside0.mk A190
        clear A190
        have H' := Aside0.mk H
        clear H
        go_wp2_with (first | (go_at_call 21; (with_reducible refine (word_Neg.calls t497 t504 _ A17.out).mono ?_); rintro e w' ⟨rfl, ⟨nd, rfl⟩⟩) | (go_at_call 16; (with_reducible refine (word_Finite.calls t497 t505 _ A19.out).mono ?_); rintro e w' ⟨rfl, ⟨nd, rfl⟩⟩))
        go_meet
        case rel => exact ⟨_, (!t505), (by first | rfl | (simp; done) | (simp [*]; done)), H', ⟨by have := HJ4.out; first | omega | exact Nat.le_refl _⟩, ⟨by (with_reducible repeat (first | apply Kd.R_alloc | apply Kd.R_drewN | apply Kd.R_drew)); exact HO501.out⟩, ⟨bel⟩⟩
      ·
       rw [if_neg c16] at H
       have c16b0 : (t498 == 1) = false := beq_eq_false_iff_ne.mpr c16
       have c16b1 : (t498 != 1) = true := bne_iff_ne.mpr c16
       have H' := Aside0.mk H
       clear H
       go_wp2
       go_meet
       case rel => exact ⟨_, (true), (by first | rfl | (simp; done) | (simp [*]; done)), H', ⟨by have := HJ4.out; first | omega | exact Nat.le_refl _⟩, ⟨by (with_reducible repeat (first | apply Kd.R_alloc | apply Kd.R_drewN | apply Kd.R_drew)); exact HO501.out⟩, ⟨bel⟩⟩
    case rest =>
     clear HC10
     try clear c1
     try clear c2
     try clear p2
     try clear c3
     try clear c6
     try clear c8
     try clear c8b0
     try clear c10
     try clear c12
     try clear c12b0
     try clear c12b1
     try clear c14
     try clear c14b0
     try clear c14b1
     try clear c14b2
     try clear c16
     try clear c16b0
     try clear c16b1
     try clear c18
     try clear c18b0
     try clear c18b1
     try clear c18b2
     try clear p2
     obtain ⟨kq, x43_9, rfl, HA, HJ9, HO_6, HB⟩ := hcut
     cases kq with
     | zero => exact absurd HA.out (by simp [gimballaw05_MoreInts.j1])
     | succ kj9 =>
      have H := HA.out
      clear HA
      simp only [gimballaw05_MoreInts.j1] at H
      by_cases c20 : x43_9 = true
      ·
       subst c20
       rw [if_pos rfl] at H
       obtain rfl := Option.some.inj H
       go_wp2
       go_ret
       exact ⟨er, bel⟩
      ·
       replace c20 := Bool.eq_false_iff.mpr c20
       subst c20
       rw [if_neg (show ¬ (false = true) by decide)] at H
       obtain ⟨t506, A210, H⟩ := Option.bind_eq_some_iff.mp H
       (try dsimp -simprocs only at H)
       have A21 := Aside0.mk A210
       clear A210
       obtain ⟨t509, A220, H⟩ := Option.bind_eq_some_iff.mp H
       (try dsimp -simprocs only at H)
       have A22 := Aside0.mk A220
       clear A220
       obtain ⟨t512, A230, H⟩ := Option.bind_eq_some_iff.mp H
       (try dsimp -simprocs only at H)
       have A23 := Aside0.mk A230
       clear A230
       by_cases c24 : ((t512 == 0) != (t498 == 0)) = true
       ·
        rw [if_pos c24] at H
        have c24b0 : ((t512 == 0) != (t498 == 0)) = true := c24
        (try (have c24b1 : decide ((t512 == 0) = (t498 == 0)) = false := by simpa using c24))
        (try (have c24b2 : ((t512 == 0) == (t498 == 0)) = false := by simpa using c24))
        (try (have c24b3 : ¬ ((t512 == 0) = (t498 == 0)) := by simpa using c24))
        clear c24
        obtain rfl := Option.some.inj H
        go_wp2_with (first | ((with_reducible refine gate_callee (f := 18) rfl ?_); refine goesL_ (some 45) rfl rfl Try.func18 (by kernel_rfl) rfl #[.int .u64 t497] rfl ga ?_; (with_reducible refine (gimbalref04_Whole.calls kj9 t497 t506 _ A21.out).mono ?_); rintro e w25 ⟨v507, rfl, ho0, hb⟩; refine ⟨_, rfl, ?_⟩; have n0_ := Aside0.mk (Kd.R_elder' (kr HO_6) (Kd.R_base ho0) hb); have n1_ := Aside0.mk (Kd.R_lower (Kd.R_new' ho0 (Kd.R_lt (kr HO_6))) (below_size bel)); have n2_ := Aside0.mk (below_step bel hb); clear HO_6; clear HB; have HO_6 := n0_; have HO508 := n1_; have HB := n2_; clear n0_ n1_ n2_; (try clear hb); (try clear ho0); obtain ⟨Ao26, co26, eo26⟩ := Kd.R_slice HO_6.out; subst eo26) | ((with_reducible refine gate_callee (f := 19) rfl ?_); refine goesL_ (some 47) rfl rfl Try.func19 (by kernel_rfl) rfl #[.slice Ao26 t499.length co26, .int .i64 1074] rfl ga ?_; (with_reducible refine (gimbalref02_Up.calls kj9 _ _ t499 1074 t509 _ ?side1 ?side2 A22.out).mono ?_); (case side1 => exact ks HO_6); (case side2 => exact (Kd.R_reads' HO_6.out).2.1); rintro e w27 ⟨v510, rfl, ho0, hb⟩; refine ⟨_, rfl, ?_⟩; have n0_ := Aside0.mk (Kd.R_elder' (kr HO_6) (Kd.R_base ho0) hb); have n1_ := Aside0.mk (Kd.R_elder' (kr HO508) (Kd.R_base ho0) hb); have n2_ := Aside0.mk (Kd.R_lower (Kd.R_new' (Kd.R_new' ho0 (Kd.R_lt (kr HO_6))) (Kd.R_lt (kr HO508))) (below_size bel)); have n3_ := Aside0.mk (below_step bel hb); clear HO_6; clear HO508; clear HB; have HO_6 := n0_; have HO508 := n1_; have HO511 := n2_; have HB := n3_; clear n0_ n1_ n2_ n3_; (try clear hb); (try clear ho0); obtain ⟨Ao28, co28, eo28⟩ := Kd.R_slice HO508.out; subst eo28; obtain ⟨Ao29, co29, eo29⟩ := Kd.R_slice HO511.out; subst eo29) | ((with_reducible refine gate_callee (f := 20) rfl ?_); refine goesL_ (some 50) rfl rfl Try.func20 (by kernel_rfl) rfl #[.slice Ao28 t506.length co28, .slice Ao29 t509.length co29] rfl ga ?_; (with_reducible refine (gimbalref02_Cmp.calls kj9 _ _ t506 _ _ t509 t512 _ ?side1 ?side2 ?side3 ?side4 A23.out).mono ?_); (case side1 => exact ks HO508); (case side2 => exact (Kd.R_reads' HO508.out).2.1); (case side3 => exact ks HO511); (case side4 => exact (Kd.R_reads' HO511.out).2.1); rintro e w30 ⟨rfl, hb⟩; refine ⟨_, rfl, ?_⟩; have n0_ := Aside0.mk (Kd.R_below (kr HO_6) hb); have n1_ := Aside0.mk (Kd.R_below (kr HO508) hb); have n2_ := Aside0.mk (Kd.R_below (kr HO511) hb); have n3_ := Aside0.mk (below_step bel hb); clear HO_6; clear HO508; clear HO511; clear HB; have HO_6 := n0_; have HO508 := n1_; have HO511 := n2_; have HB := n3_; clear n0_ n1_ n2_ n3_; (try clear hb)))
        go_ret
        exact ⟨er, bel⟩
       ·
        rw [if_neg c24] at H
        have c24b0 : ((t512 == 0) != (t498 == 0)) = false := by simpa using c24
        (try (have c24b1 : decide ((t512 == 0) = (t498 == 0)) = true := by simpa using c24))
        (try (have c24b2 : ((t512 == 0) == (t498 == 0)) = true := by simpa using c24))
        (try (have c24b3 : ((t512 == 0) = (t498 == 0)) := by simpa using c24))
        clear c24
        obtain ⟨⟨t513, t514⟩, A310, H⟩ := Option.bind_eq_some_iff.mp H
        (try dsimp -simprocs only at H)
        have A31 := Aside0.mk A310
        clear A310
        by_cases c32 : t498 = 0
        ·
         rw [if_pos c32] at H
         have c32b0 : (t498 == 0) = true := beq_iff_eq.mpr c32
         have c32b1 : (t498 != 0) = false := bne_eq_false_iff_eq.mpr c32
         clear c32
         by_cases c33 : t513 = a0
         ·
          rw [if_pos c33] at H
          have c33b0 : (t513 == a0) = true := beq_iff_eq.mpr c33
          have c33b1 : (t513 != a0) = false := bne_eq_false_iff_eq.mpr c33
          clear c33
          obtain rfl := Option.some.inj H
          go_wp2_with (first | ((with_reducible refine gate_callee (f := 18) rfl ?_); refine goesL_ (some 45) rfl rfl Try.func18 (by kernel_rfl) rfl #[.int .u64 t497] rfl ga ?_; (with_reducible refine (gimbalref04_Whole.calls kj9 t497 t506 _ A21.out).mono ?_); rintro e w34 ⟨v507, rfl, ho0, hb⟩; refine ⟨_, rfl, ?_⟩; have n0_ := Aside0.mk (Kd.R_elder' (kr HO_6) (Kd.R_base ho0) hb); have n1_ := Aside0.mk (Kd.R_lower (Kd.R_new' ho0 (Kd.R_lt (kr HO_6))) (below_size bel)); have n2_ := Aside0.mk (below_step bel hb); clear HO_6; clear HB; have HO_6 := n0_; have HO508 := n1_; have HB := n2_; clear n0_ n1_ n2_; (try clear hb); (try clear ho0); obtain ⟨Ao35, co35, eo35⟩ := Kd.R_slice HO_6.out; subst eo35) | ((with_reducible refine gate_callee (f := 19) rfl ?_); refine goesL_ (some 47) rfl rfl Try.func19 (by kernel_rfl) rfl #[.slice Ao35 t499.length co35, .int .i64 1074] rfl ga ?_; (with_reducible refine (gimbalref02_Up.calls kj9 _ _ t499 1074 t509 _ ?side1 ?side2 A22.out).mono ?_); (case side1 => exact ks HO_6); (case side2 => exact (Kd.R_reads' HO_6.out).2.1); rintro e w36 ⟨v510, rfl, ho0, hb⟩; refine ⟨_, rfl, ?_⟩; have n0_ := Aside0.mk (Kd.R_elder' (kr HO_6) (Kd.R_base ho0) hb); have n1_ := Aside0.mk (Kd.R_elder' (kr HO508) (Kd.R_base ho0) hb); have n2_ := Aside0.mk (Kd.R_lower (Kd.R_new' (Kd.R_new' ho0 (Kd.R_lt (kr HO_6))) (Kd.R_lt (kr HO508))) (below_size bel)); have n3_ := Aside0.mk (below_step bel hb); clear HO_6; clear HO508; clear HB; have HO_6 := n0_; have HO508 := n1_; have HO511 := n2_; have HB := n3_; clear n0_ n1_ n2_ n3_; (try clear hb); (try clear ho0); obtain ⟨Ao37, co37, eo37⟩ := Kd.R_slice HO508.out; subst eo37; obtain ⟨Ao38, co38, eo38⟩ := Kd.R_slice HO511.out; subst eo38) | ((with_reducible refine gate_callee (f := 20) rfl ?_); refine goesL_ (some 50) rfl rfl Try.func20 (by kernel_rfl) rfl #[.slice Ao37 t506.length co37, .slice Ao38 t509.length co38] rfl ga ?_; (with_reducible refine (gimbalref02_Cmp.calls kj9 _ _ t506 _ _ t509 t512 _ ?side1 ?side2 ?side3 ?side4 A23.out).mono ?_); (case side1 => exact ks HO508); (case side2 => exact (Kd.R_reads' HO508.out).2.1); (case side3 => exact ks HO511); (case side4 => exact (Kd.R_reads' HO511.out).2.1); rintro e w39 ⟨rfl, hb⟩; refine ⟨_, rfl, ?_⟩; have n0_ := Aside0.mk (Kd.R_below (kr HO_6) hb); have n1_ := Aside0.mk (Kd.R_below (kr HO508) hb); have n2_ := Aside0.mk (Kd.R_below (kr HO511) hb); have n3_ := Aside0.mk (below_step bel hb); clear HO_6; clear HO508; clear HO511; clear HB; have HO_6 := n0_; have HO508 := n1_; have HO511 := n2_; have HB := n3_; clear n0_ n1_ n2_ n3_; (try clear hb)) | ((with_reducible refine gate_callee (f := 15) rfl ?_); refine goesL_ (some 57) rfl rfl Try.func15 (by kernel_rfl) rfl #[.int .u64 t497] rfl ga ?_; (with_reducible refine (more_ToInt.calls kj9 t497 t513 t514 _ A31.out).mono ?_); rintro e w40 ⟨rfl, hb⟩; refine ⟨_, rfl, ?_⟩; have n0_ := Aside0.mk (Kd.R_below (kr HO_6) hb); have n1_ := Aside0.mk (Kd.R_below (kr HO508) hb); have n2_ := Aside0.mk (Kd.R_below (kr HO511) hb); have n3_ := Aside0.mk (below_step bel hb); clear HO_6; clear HO508; clear HO511; clear HB; have HO_6 := n0_; have HO508 := n1_; have HO511 := n2_; have HB := n3_; clear n0_ n1_ n2_ n3_; (try clear hb)))
          go_ret
          exact ⟨er, bel⟩
         ·
          rw [if_neg c33] at H
          have c33b0 : (t513 == a0) = false := beq_eq_false_iff_ne.mpr c33
          have c33b1 : (t513 != a0) = true := bne_iff_ne.mpr c33
          obtain rfl := Option.some.inj H
          go_wp2_with (first | ((with_reducible refine gate_callee (f := 18) rfl ?_); refine goesL_ (some 45) rfl rfl Try.func18 (by kernel_rfl) rfl #[.int .u64 t497] rfl ga ?_; (with_reducible refine (gimbalref04_Whole.calls kj9 t497 t506 _ A21.out).mono ?_); rintro e w41 ⟨v507, rfl, ho0, hb⟩; refine ⟨_, rfl, ?_⟩; have n0_ := Aside0.mk (Kd.R_elder' (kr HO_6) (Kd.R_base ho0) hb); have n1_ := Aside0.mk (Kd.R_lower (Kd.R_new' ho0 (Kd.R_lt (kr HO_6))) (below_size bel)); have n2_ := Aside0.mk (below_step bel hb); clear HO_6; clear HB; have HO_6 := n0_; have HO508 := n1_; have HB := n2_; clear n0_ n1_ n2_; (try clear hb); (try clear ho0); obtain ⟨Ao42, co42, eo42⟩ := Kd.R_slice HO_6.out; subst eo42) | ((with_reducible refine gate_callee (f := 19) rfl ?_); refine goesL_ (some 47) rfl rfl Try.func19 (by kernel_rfl) rfl #[.slice Ao42 t499.length co42, .int .i64 1074] rfl ga ?_; (with_reducible refine (gimbalref02_Up.calls kj9 _ _ t499 1074 t509 _ ?side1 ?side2 A22.out).mono ?_); (case side1 => exact ks HO_6); (case side2 => exact (Kd.R_reads' HO_6.out).2.1); rintro e w43 ⟨v510, rfl, ho0, hb⟩; refine ⟨_, rfl, ?_⟩; have n0_ := Aside0.mk (Kd.R_elder' (kr HO_6) (Kd.R_base ho0) hb); have n1_ := Aside0.mk (Kd.R_elder' (kr HO508) (Kd.R_base ho0) hb); have n2_ := Aside0.mk (Kd.R_lower (Kd.R_new' (Kd.R_new' ho0 (Kd.R_lt (kr HO_6))) (Kd.R_lt (kr HO508))) (below_size bel)); have n3_ := Aside0.mk (below_step bel hb); clear HO_6; clear HO508; clear HB; have HO_6 := n0_; have HO508 := n1_; have HO511 := n2_; have HB := n3_; clear n0_ n1_ n2_ n3_; (try clear hb); (try clear ho0); obtain ⟨Ao44, co44, eo44⟩ := Kd.R_slice HO508.out; subst eo44; obtain ⟨Ao45, co45, eo45⟩ := Kd.R_slice HO511.out; subst eo45) | ((with_reducible refine gate_callee (f := 20) rfl ?_); refine goesL_ (some 50) rfl rfl Try.func20 (by kernel_rfl) rfl #[.slice Ao44 t506.length co44, .slice Ao45 t509.length co45] rfl ga ?_; (with_reducible refine (gimbalref02_Cmp.calls kj9 _ _ t506 _ _ t509 t512 _ ?side1 ?side2 ?side3 ?side4 A23.out).mono ?_); (case side1 => exact ks HO508); (case side2 => exact (Kd.R_reads' HO508.out).2.1); (case side3 => exact ks HO511); (case side4 => exact (Kd.R_reads' HO511.out).2.1); rintro e w46 ⟨rfl, hb⟩; refine ⟨_, rfl, ?_⟩; have n0_ := Aside0.mk (Kd.R_below (kr HO_6) hb); have n1_ := Aside0.mk (Kd.R_below (kr HO508) hb); have n2_ := Aside0.mk (Kd.R_below (kr HO511) hb); have n3_ := Aside0.mk (below_step bel hb); clear HO_6; clear HO508; clear HO511; clear HB; have HO_6 := n0_; have HO508 := n1_; have HO511 := n2_; have HB := n3_; clear n0_ n1_ n2_ n3_; (try clear hb)) | ((with_reducible refine gate_callee (f := 15) rfl ?_); refine goesL_ (some 57) rfl rfl Try.func15 (by kernel_rfl) rfl #[.int .u64 t497] rfl ga ?_; (with_reducible refine (more_ToInt.calls kj9 t497 t513 t514 _ A31.out).mono ?_); rintro e w47 ⟨rfl, hb⟩; refine ⟨_, rfl, ?_⟩; have n0_ := Aside0.mk (Kd.R_below (kr HO_6) hb); have n1_ := Aside0.mk (Kd.R_below (kr HO508) hb); have n2_ := Aside0.mk (Kd.R_below (kr HO511) hb); have n3_ := Aside0.mk (below_step bel hb); clear HO_6; clear HO508; clear HO511; clear HB; have HO_6 := n0_; have HO508 := n1_; have HO511 := n2_; have HB := n3_; clear n0_ n1_ n2_ n3_; (try clear hb)))
          go_ret
          exact ⟨er, bel⟩
        ·
         rw [if_neg c32] at H
         have c32b0 : (t498 == 0) = false := beq_eq_false_iff_ne.mpr c32
         have c32b1 : (t498 != 0) = true := bne_iff_ne.mpr c32
         by_cases c48 : t514 = 0
         ·
          rw [if_pos c48] at H
          have c48b0 : (t514 == 0) = true := beq_iff_eq.mpr c48
          have c48b1 : (t514 != 0) = false := bne_eq_false_iff_eq.mpr c48
          clear c48
          obtain rfl := Option.some.inj H
          go_wp2_with (first | ((with_reducible refine gate_callee (f := 18) rfl ?_); refine goesL_ (some 45) rfl rfl Try.func18 (by kernel_rfl) rfl #[.int .u64 t497] rfl ga ?_; (with_reducible refine (gimbalref04_Whole.calls kj9 t497 t506 _ A21.out).mono ?_); rintro e w49 ⟨v507, rfl, ho0, hb⟩; refine ⟨_, rfl, ?_⟩; have n0_ := Aside0.mk (Kd.R_elder' (kr HO_6) (Kd.R_base ho0) hb); have n1_ := Aside0.mk (Kd.R_lower (Kd.R_new' ho0 (Kd.R_lt (kr HO_6))) (below_size bel)); have n2_ := Aside0.mk (below_step bel hb); clear HO_6; clear HB; have HO_6 := n0_; have HO508 := n1_; have HB := n2_; clear n0_ n1_ n2_; (try clear hb); (try clear ho0); obtain ⟨Ao50, co50, eo50⟩ := Kd.R_slice HO_6.out; subst eo50) | ((with_reducible refine gate_callee (f := 19) rfl ?_); refine goesL_ (some 47) rfl rfl Try.func19 (by kernel_rfl) rfl #[.slice Ao50 t499.length co50, .int .i64 1074] rfl ga ?_; (with_reducible refine (gimbalref02_Up.calls kj9 _ _ t499 1074 t509 _ ?side1 ?side2 A22.out).mono ?_); (case side1 => exact ks HO_6); (case side2 => exact (Kd.R_reads' HO_6.out).2.1); rintro e w51 ⟨v510, rfl, ho0, hb⟩; refine ⟨_, rfl, ?_⟩; have n0_ := Aside0.mk (Kd.R_elder' (kr HO_6) (Kd.R_base ho0) hb); have n1_ := Aside0.mk (Kd.R_elder' (kr HO508) (Kd.R_base ho0) hb); have n2_ := Aside0.mk (Kd.R_lower (Kd.R_new' (Kd.R_new' ho0 (Kd.R_lt (kr HO_6))) (Kd.R_lt (kr HO508))) (below_size bel)); have n3_ := Aside0.mk (below_step bel hb); clear HO_6; clear HO508; clear HB; have HO_6 := n0_; have HO508 := n1_; have HO511 := n2_; have HB := n3_; clear n0_ n1_ n2_ n3_; (try clear hb); (try clear ho0); obtain ⟨Ao52, co52, eo52⟩ := Kd.R_slice HO508.out; subst eo52; obtain ⟨Ao53, co53, eo53⟩ := Kd.R_slice HO511.out; subst eo53) | ((with_reducible refine gate_callee (f := 20) rfl ?_); refine goesL_ (some 50) rfl rfl Try.func20 (by kernel_rfl) rfl #[.slice Ao52 t506.length co52, .slice Ao53 t509.length co53] rfl ga ?_; (with_reducible refine (gimbalref02_Cmp.calls kj9 _ _ t506 _ _ t509 t512 _ ?side1 ?side2 ?side3 ?side4 A23.out).mono ?_); (case side1 => exact ks HO508); (case side2 => exact (Kd.R_reads' HO508.out).2.1); (case side3 => exact ks HO511); (case side4 => exact (Kd.R_reads' HO511.out).2.1); rintro e w54 ⟨rfl, hb⟩; refine ⟨_, rfl, ?_⟩; have n0_ := Aside0.mk (Kd.R_below (kr HO_6) hb); have n1_ := Aside0.mk (Kd.R_below (kr HO508) hb); have n2_ := Aside0.mk (Kd.R_below (kr HO511) hb); have n3_ := Aside0.mk (below_step bel hb); clear HO_6; clear HO508; clear HO511; clear HB; have HO_6 := n0_; have HO508 := n1_; have HO511 := n2_; have HB := n3_; clear n0_ n1_ n2_ n3_; (try clear hb)) | ((with_reducible refine gate_callee (f := 15) rfl ?_); refine goesL_ (some 57) rfl rfl Try.func15 (by kernel_rfl) rfl #[.int .u64 t497] rfl ga ?_; (with_reducible refine (more_ToInt.calls kj9 t497 t513 t514 _ A31.out).mono ?_); rintro e w55 ⟨rfl, hb⟩; refine ⟨_, rfl, ?_⟩; have n0_ := Aside0.mk (Kd.R_below (kr HO_6) hb); have n1_ := Aside0.mk (Kd.R_below (kr HO508) hb); have n2_ := Aside0.mk (Kd.R_below (kr HO511) hb); have n3_ := Aside0.mk (below_step bel hb); clear HO_6; clear HO508; clear HO511; clear HB; have HO_6 := n0_; have HO508 := n1_; have HO511 := n2_; have HB := n3_; clear n0_ n1_ n2_ n3_; (try clear hb)))
          go_ret
          exact ⟨er, bel⟩
         ·
          rw [if_neg c48] at H
          have c48b0 : (t514 == 0) = false := beq_eq_false_iff_ne.mpr c48
          have c48b1 : (t514 != 0) = true := bne_iff_ne.mpr c48
          by_cases c56 : t514 = 16
          ·
           rw [if_pos c56] at H
           have c56b0 : (t514 == 16) = true := beq_iff_eq.mpr c56
           have c56b1 : (t514 != 16) = false := bne_eq_false_iff_eq.mpr c56
           clear c56
           by_cases c57 : t513 = 0
           ·
            rw [if_pos c57] at H
            have c57b0 : (t513 == 0) = true := beq_iff_eq.mpr c57
            have c57b1 : (t513 != 0) = false := bne_eq_false_iff_eq.mpr c57
            clear c57
            obtain ⟨t515, A580, H⟩ := Option.bind_eq_some_iff.mp H
            (try dsimp -simprocs only at H)
            have A58 := Aside0.mk A580
            clear A580
            obtain rfl := Option.some.inj H
            go_wp2_with (first | ((with_reducible refine gate_callee (f := 18) rfl ?_); refine goesL_ (some 45) rfl rfl Try.func18 (by kernel_rfl) rfl #[.int .u64 t497] rfl ga ?_; (with_reducible refine (gimbalref04_Whole.calls kj9 t497 t506 _ A21.out).mono ?_); rintro e w59 ⟨v507, rfl, ho0, hb⟩; refine ⟨_, rfl, ?_⟩; have n0_ := Aside0.mk (Kd.R_elder' (kr HO_6) (Kd.R_base ho0) hb); have n1_ := Aside0.mk (Kd.R_lower (Kd.R_new' ho0 (Kd.R_lt (kr HO_6))) (below_size bel)); have n2_ := Aside0.mk (below_step bel hb); clear HO_6; clear HB; have HO_6 := n0_; have HO508 := n1_; have HB := n2_; clear n0_ n1_ n2_; (try clear hb); (try clear ho0); obtain ⟨Ao60, co60, eo60⟩ := Kd.R_slice HO_6.out; subst eo60) | ((with_reducible refine gate_callee (f := 19) rfl ?_); refine goesL_ (some 47) rfl rfl Try.func19 (by kernel_rfl) rfl #[.slice Ao60 t499.length co60, .int .i64 1074] rfl ga ?_; (with_reducible refine (gimbalref02_Up.calls kj9 _ _ t499 1074 t509 _ ?side1 ?side2 A22.out).mono ?_); (case side1 => exact ks HO_6); (case side2 => exact (Kd.R_reads' HO_6.out).2.1); rintro e w61 ⟨v510, rfl, ho0, hb⟩; refine ⟨_, rfl, ?_⟩; have n0_ := Aside0.mk (Kd.R_elder' (kr HO_6) (Kd.R_base ho0) hb); have n1_ := Aside0.mk (Kd.R_elder' (kr HO508) (Kd.R_base ho0) hb); have n2_ := Aside0.mk (Kd.R_lower (Kd.R_new' (Kd.R_new' ho0 (Kd.R_lt (kr HO_6))) (Kd.R_lt (kr HO508))) (below_size bel)); have n3_ := Aside0.mk (below_step bel hb); clear HO_6; clear HO508; clear HB; have HO_6 := n0_; have HO508 := n1_; have HO511 := n2_; have HB := n3_; clear n0_ n1_ n2_ n3_; (try clear hb); (try clear ho0); obtain ⟨Ao62, co62, eo62⟩ := Kd.R_slice HO508.out; subst eo62; obtain ⟨Ao63, co63, eo63⟩ := Kd.R_slice HO511.out; subst eo63) | ((with_reducible refine gate_callee (f := 20) rfl ?_); refine goesL_ (some 50) rfl rfl Try.func20 (by kernel_rfl) rfl #[.slice Ao62 t506.length co62, .slice Ao63 t509.length co63] rfl ga ?_; (with_reducible refine (gimbalref02_Cmp.calls kj9 _ _ t506 _ _ t509 t512 _ ?side1 ?side2 ?side3 ?side4 A23.out).mono ?_); (case side1 => exact ks HO508); (case side2 => exact (Kd.R_reads' HO508.out).2.1); (case side3 => exact ks HO511); (case side4 => exact (Kd.R_reads' HO511.out).2.1); rintro e w64 ⟨rfl, hb⟩; refine ⟨_, rfl, ?_⟩; have n0_ := Aside0.mk (Kd.R_below (kr HO_6) hb); have n1_ := Aside0.mk (Kd.R_below (kr HO508) hb); have n2_ := Aside0.mk (Kd.R_below (kr HO511) hb); have n3_ := Aside0.mk (below_step bel hb); clear HO_6; clear HO508; clear HO511; clear HB; have HO_6 := n0_; have HO508 := n1_; have HO511 := n2_; have HB := n3_; clear n0_ n1_ n2_ n3_; (try clear hb)) | ((with_reducible refine gate_callee (f := 15) rfl ?_); refine goesL_ (some 57) rfl rfl Try.func15 (by kernel_rfl) rfl #[.int .u64 t497] rfl ga ?_; (with_reducible refine (more_ToInt.calls kj9 t497 t513 t514 _ A31.out).mono ?_); rintro e w65 ⟨rfl, hb⟩; refine ⟨_, rfl, ?_⟩; have n0_ := Aside0.mk (Kd.R_below (kr HO_6) hb); have n1_ := Aside0.mk (Kd.R_below (kr HO508) hb); have n2_ := Aside0.mk (Kd.R_below (kr HO511) hb); have n3_ := Aside0.mk (below_step bel hb); clear HO_6; clear HO508; clear HO511; clear HB; have HO_6 := n0_; have HO508 := n1_; have HO511 := n2_; have HB := n3_; clear n0_ n1_ n2_ n3_; (try clear hb)) | (go_at_call 25; (with_reducible refine (word_Abs.calls t497 t515 _ A58.out).mono ?_); rintro e w' ⟨rfl, ⟨nd, rfl⟩⟩))
            go_ret
            exact ⟨er, bel⟩
           ·
            rw [if_neg c57] at H
            have c57b0 : (t513 == 0) = false := beq_eq_false_iff_ne.mpr c57
            have c57b1 : (t513 != 0) = true := bne_iff_ne.mpr c57
            obtain rfl := Option.some.inj H
            go_wp2_with (first | ((with_reducible refine gate_callee (f := 18) rfl ?_); refine goesL_ (some 45) rfl rfl Try.func18 (by kernel_rfl) rfl #[.int .u64 t497] rfl ga ?_; (with_reducible refine (gimbalref04_Whole.calls kj9 t497 t506 _ A21.out).mono ?_); rintro e w66 ⟨v507, rfl, ho0, hb⟩; refine ⟨_, rfl, ?_⟩; have n0_ := Aside0.mk (Kd.R_elder' (kr HO_6) (Kd.R_base ho0) hb); have n1_ := Aside0.mk (Kd.R_lower (Kd.R_new' ho0 (Kd.R_lt (kr HO_6))) (below_size bel)); have n2_ := Aside0.mk (below_step bel hb); clear HO_6; clear HB; have HO_6 := n0_; have HO508 := n1_; have HB := n2_; clear n0_ n1_ n2_; (try clear hb); (try clear ho0); obtain ⟨Ao67, co67, eo67⟩ := Kd.R_slice HO_6.out; subst eo67) | ((with_reducible refine gate_callee (f := 19) rfl ?_); refine goesL_ (some 47) rfl rfl Try.func19 (by kernel_rfl) rfl #[.slice Ao67 t499.length co67, .int .i64 1074] rfl ga ?_; (with_reducible refine (gimbalref02_Up.calls kj9 _ _ t499 1074 t509 _ ?side1 ?side2 A22.out).mono ?_); (case side1 => exact ks HO_6); (case side2 => exact (Kd.R_reads' HO_6.out).2.1); rintro e w68 ⟨v510, rfl, ho0, hb⟩; refine ⟨_, rfl, ?_⟩; have n0_ := Aside0.mk (Kd.R_elder' (kr HO_6) (Kd.R_base ho0) hb); have n1_ := Aside0.mk (Kd.R_elder' (kr HO508) (Kd.R_base ho0) hb); have n2_ := Aside0.mk (Kd.R_lower (Kd.R_new' (Kd.R_new' ho0 (Kd.R_lt (kr HO_6))) (Kd.R_lt (kr HO508))) (below_size bel)); have n3_ := Aside0.mk (below_step bel hb); clear HO_6; clear HO508; clear HB; have HO_6 := n0_; have HO508 := n1_; have HO511 := n2_; have HB := n3_; clear n0_ n1_ n2_ n3_; (try clear hb); (try clear ho0); obtain ⟨Ao69, co69, eo69⟩ := Kd.R_slice HO508.out; subst eo69; obtain ⟨Ao70, co70, eo70⟩ := Kd.R_slice HO511.out; subst eo70) | ((with_reducible refine gate_callee (f := 20) rfl ?_); refine goesL_ (some 50) rfl rfl Try.func20 (by kernel_rfl) rfl #[.slice Ao69 t506.length co69, .slice Ao70 t509.length co70] rfl ga ?_; (with_reducible refine (gimbalref02_Cmp.calls kj9 _ _ t506 _ _ t509 t512 _ ?side1 ?side2 ?side3 ?side4 A23.out).mono ?_); (case side1 => exact ks HO508); (case side2 => exact (Kd.R_reads' HO508.out).2.1); (case side3 => exact ks HO511); (case side4 => exact (Kd.R_reads' HO511.out).2.1); rintro e w71 ⟨rfl, hb⟩; refine ⟨_, rfl, ?_⟩; have n0_ := Aside0.mk (Kd.R_below (kr HO_6) hb); have n1_ := Aside0.mk (Kd.R_below (kr HO508) hb); have n2_ := Aside0.mk (Kd.R_below (kr HO511) hb); have n3_ := Aside0.mk (below_step bel hb); clear HO_6; clear HO508; clear HO511; clear HB; have HO_6 := n0_; have HO508 := n1_; have HO511 := n2_; have HB := n3_; clear n0_ n1_ n2_ n3_; (try clear hb)) | ((with_reducible refine gate_callee (f := 15) rfl ?_); refine goesL_ (some 57) rfl rfl Try.func15 (by kernel_rfl) rfl #[.int .u64 t497] rfl ga ?_; (with_reducible refine (more_ToInt.calls kj9 t497 t513 t514 _ A31.out).mono ?_); rintro e w72 ⟨rfl, hb⟩; refine ⟨_, rfl, ?_⟩; have n0_ := Aside0.mk (Kd.R_below (kr HO_6) hb); have n1_ := Aside0.mk (Kd.R_below (kr HO508) hb); have n2_ := Aside0.mk (Kd.R_below (kr HO511) hb); have n3_ := Aside0.mk (below_step bel hb); clear HO_6; clear HO508; clear HO511; clear HB; have HO_6 := n0_; have HO508 := n1_; have HO511 := n2_; have HB := n3_; clear n0_ n1_ n2_ n3_; (try clear hb)))
            go_ret
            exact ⟨er, bel⟩
          ·
           rw [if_neg c56] at H
           have c56b0 : (t514 == 16) = false := beq_eq_false_iff_ne.mpr c56
           have c56b1 : (t514 != 16) = true := bne_iff_ne.mpr c56
           obtain rfl := Option.some.inj H
           go_wp2_with (first | ((with_reducible refine gate_callee (f := 18) rfl ?_); refine goesL_ (some 45) rfl rfl Try.func18 (by kernel_rfl) rfl #[.int .u64 t497] rfl ga ?_; (with_reducible refine (gimbalref04_Whole.calls kj9 t497 t506 _ A21.out).mono ?_); rintro e w73 ⟨v507, rfl, ho0, hb⟩; refine ⟨_, rfl, ?_⟩; have n0_ := Aside0.mk (Kd.R_elder' (kr HO_6) (Kd.R_base ho0) hb); have n1_ := Aside0.mk (Kd.R_lower (Kd.R_new' ho0 (Kd.R_lt (kr HO_6))) (below_size bel)); have n2_ := Aside0.mk (below_step bel hb); clear HO_6; clear HB; have HO_6 := n0_; have HO508 := n1_; have HB := n2_; clear n0_ n1_ n2_; (try clear hb); (try clear ho0); obtain ⟨Ao74, co74, eo74⟩ := Kd.R_slice HO_6.out; subst eo74) | ((with_reducible refine gate_callee (f := 19) rfl ?_); refine goesL_ (some 47) rfl rfl Try.func19 (by kernel_rfl) rfl #[.slice Ao74 t499.length co74, .int .i64 1074] rfl ga ?_; (with_reducible refine (gimbalref02_Up.calls kj9 _ _ t499 1074 t509 _ ?side1 ?side2 A22.out).mono ?_); (case side1 => exact ks HO_6); (case side2 => exact (Kd.R_reads' HO_6.out).2.1); rintro e w75 ⟨v510, rfl, ho0, hb⟩; refine ⟨_, rfl, ?_⟩; have n0_ := Aside0.mk (Kd.R_elder' (kr HO_6) (Kd.R_base ho0) hb); have n1_ := Aside0.mk (Kd.R_elder' (kr HO508) (Kd.R_base ho0) hb); have n2_ := Aside0.mk (Kd.R_lower (Kd.R_new' (Kd.R_new' ho0 (Kd.R_lt (kr HO_6))) (Kd.R_lt (kr HO508))) (below_size bel)); have n3_ := Aside0.mk (below_step bel hb); clear HO_6; clear HO508; clear HB; have HO_6 := n0_; have HO508 := n1_; have HO511 := n2_; have HB := n3_; clear n0_ n1_ n2_ n3_; (try clear hb); (try clear ho0); obtain ⟨Ao76, co76, eo76⟩ := Kd.R_slice HO508.out; subst eo76; obtain ⟨Ao77, co77, eo77⟩ := Kd.R_slice HO511.out; subst eo77) | ((with_reducible refine gate_callee (f := 20) rfl ?_); refine goesL_ (some 50) rfl rfl Try.func20 (by kernel_rfl) rfl #[.slice Ao76 t506.length co76, .slice Ao77 t509.length co77] rfl ga ?_; (with_reducible refine (gimbalref02_Cmp.calls kj9 _ _ t506 _ _ t509 t512 _ ?side1 ?side2 ?side3 ?side4 A23.out).mono ?_); (case side1 => exact ks HO508); (case side2 => exact (Kd.R_reads' HO508.out).2.1); (case side3 => exact ks HO511); (case side4 => exact (Kd.R_reads' HO511.out).2.1); rintro e w78 ⟨rfl, hb⟩; refine ⟨_, rfl, ?_⟩; have n0_ := Aside0.mk (Kd.R_below (kr HO_6) hb); have n1_ := Aside0.mk (Kd.R_below (kr HO508) hb); have n2_ := Aside0.mk (Kd.R_below (kr HO511) hb); have n3_ := Aside0.mk (below_step bel hb); clear HO_6; clear HO508; clear HO511; clear HB; have HO_6 := n0_; have HO508 := n1_; have HO511 := n2_; have HB := n3_; clear n0_ n1_ n2_ n3_; (try clear hb)) | ((with_reducible refine gate_callee (f := 15) rfl ?_); refine goesL_ (some 57) rfl rfl Try.func15 (by kernel_rfl) rfl #[.int .u64 t497] rfl ga ?_; (with_reducible refine (more_ToInt.calls kj9 t497 t513 t514 _ A31.out).mono ?_); rintro e w79 ⟨rfl, hb⟩; refine ⟨_, rfl, ?_⟩; have n0_ := Aside0.mk (Kd.R_below (kr HO_6) hb); have n1_ := Aside0.mk (Kd.R_below (kr HO508) hb); have n2_ := Aside0.mk (Kd.R_below (kr HO511) hb); have n3_ := Aside0.mk (below_step bel hb); clear HO_6; clear HO508; clear HO511; clear HB; have HO_6 := n0_; have HO508 := n1_; have HO511 := n2_; have HB := n3_; clear n0_ n1_ n2_ n3_; (try clear hb)))
           go_ret
           exact ⟨er, bel⟩
 ·
  replace c3 := Bool.eq_false_iff.mpr c3
  subst c3
  rw [if_neg (show ¬ (false = true) by decide)] at H
  obtain rfl := Option.some.inj H
  go_enter Try.func6, Try.ntmps6
  go_wp2_with (first | ((with_reducible refine gate_callee (f := 10) rfl ?_); refine goesL_ (some 11) rfl rfl Try.func10 (by kernel_rfl) rfl #[] rfl ga ?_; (with_reducible refine (gimballaw05_head.calls k  false _ A2.out).mono ?_); rintro e w80 ⟨rfl, hb⟩; refine ⟨_, rfl, ?_⟩; have n0_ := Aside0.mk (below_step bel hb); clear HB; have HB := n0_; clear n0_; (try clear hb)))
  go_ret
  exact ⟨er, bel⟩

/-- THE ONE PURE STATEMENT of gimballaw05_MoreInts: yours. -/
def gimballaw05_MoreInts.Pure : Prop := ∀ (a0 : Int), (Lit.int .i64 a0).wf = true → ∃ k, gimballaw05_MoreInts.f k a0 = some true
theorem gimballaw05_MoreInts.walk (P : gimballaw05_MoreInts.Pure) (a0 : Int) (w : World) (w0 : (Lit.int .i64 a0).wf = true) :
  Calls Try.prog 6 #[.int .i64 a0] w fun e w' => e = .returned (.bool true) ∧ Below w.heap.size w w' := by
 obtain ⟨k, h⟩ := P a0 w0
 refine (gimballaw05_MoreInts.calls k a0 true w h).mono ?_
 rintro e w' ⟨rfl, hd⟩
 exact ⟨rfl, hd⟩

end Go.Proofs.Ytcappkphcjgeoaa.F
