-- Written by a program of this seat's session (mkprint), out of the translation.
import Derived.Test.YtenegelkbfmjkaaDoorShort
import Derived.Test.YtenegelkbfmjkaaDoorFx0
import Derived.Test.YtenegelkbfmjkaaDoorFx2
import Derived.Test.YtenegelkbfmjkaaDoorFx5
import Derived.Test.YtenegelkbfmjkaaDoorFx6
import Derived.Test.YtenegelkbfmjkaaDoorFx9
import Derived.Test.YtenegelkbfmjkaaDoorFx10
namespace Go.Proofs.YtenegelkbfmjkaaDoor.F
open Go.RowKit Go.Proofs.YtenegelkbfmjkaaDoorW.PrintWords Go.Proofs.YtenegelkbfmjkaaDoorW.PrintLast Go.Proofs.YtenegelkbfmjkaaDoorW.PrintMore
attribute [local go_sem] max2_int min2_int max_two min_two max_three min_three max_four min_four   -- for this text's walks alone
set_option linter.unusedVariables false
set_option linter.unusedSimpArgs false

/-! ### gimballaw09_MatOnes: function 4 -/
mutual
def gimballaw09_MatOnes.j0 : Nat → Int → Int → Bool → Option (Bool)
 | 0, _, _, _ => none
 | k + 1, x0, x1, x30 => if x30 = true then ((mat_New.f x0 x1).bind fun bt439 => (if bt439.1 = 0 then (if bt439.2.1 = 0 then (some ((bt439.2.2.2.length : Int) == 0)) else (some false)) else (some false))) else ((mat_New.f (Go.bits .and .i64 x0 31) (Go.bits .and .i64 x1 31)).bind fun bt446 => ((mat_One.f k (Go.bits .and .i64 x0 31)).bind fun bt453 => ((mat_Matrix_Check.f k bt446.1 bt446.2.1 bt446.2.2.1 bt446.2.2.2).bind fun t460 => (if t460 = 0 then (if bt446.1 = (Go.bits .and .i64 x0 31) then (if bt446.2.1 = (Go.bits .and .i64 x1 31) then ((mat_Matrix_Check.f k bt453.1 bt453.2.1 bt453.2.2.1 bt453.2.2.2).bind fun t461 => (if t461 = 0 then ((mat_Matrix_Finite.f k bt446.1 bt446.2.1 bt446.2.2.1 bt446.2.2.2).bind fun t462 => (gimballaw09_MatOnes.j1 k (Go.bits .and .i64 x0 31) (!t462) bt446.1 bt446.2.1 bt446.2.2.1 bt446.2.2.2 bt453.1 bt453.2.1 bt453.2.2.1 bt453.2.2.2)) else (gimballaw09_MatOnes.j1 k (Go.bits .and .i64 x0 31) true bt446.1 bt446.2.1 bt446.2.2.1 bt446.2.2.2 bt453.1 bt453.2.1 bt453.2.2.1 bt453.2.2.2))) else (gimballaw09_MatOnes.j1 k (Go.bits .and .i64 x0 31) true bt446.1 bt446.2.1 bt446.2.2.1 bt446.2.2.2 bt453.1 bt453.2.1 bt453.2.2.1 bt453.2.2.2)) else (gimballaw09_MatOnes.j1 k (Go.bits .and .i64 x0 31) true bt446.1 bt446.2.1 bt446.2.2.1 bt446.2.2.2 bt453.1 bt453.2.1 bt453.2.2.1 bt453.2.2.2)) else (gimballaw09_MatOnes.j1 k (Go.bits .and .i64 x0 31) true bt446.1 bt446.2.1 bt446.2.2.1 bt446.2.2.2 bt453.1 bt453.2.1 bt453.2.2.1 bt453.2.2.2)))))
def gimballaw09_MatOnes.j1 : Nat → Int → Bool → Int → Int → Int → List Int → Int → Int → Int → List Int → Option (Bool)
 | 0, _, _, _, _, _, _, _, _, _, _ => none
 | k + 1, x0, x81, x453000, x453001, x453002, x453003, x460000, x460001, x460002, x460003 => if x81 = true then (some false) else (gimballaw09_MatOnes.l0 k x0 x453003 (x453003.length : Int) 0 x453000 x453001 x453002 x453003 x460000 x460001 x460002 x460003)
def gimballaw09_MatOnes.l0 : Nat → Int → List Int → Int → Int → Int → Int → Int → List Int → Int → Int → Int → List Int → Option (Bool)
 | 0, _, _, _, _, _, _, _, _, _, _, _, _ => none
 | k + 1, x0, x83, x84, x85, x453000, x453001, x453002, x453003, x460000, x460001, x460002, x460003 => if x85 < x84 then (if 0 ≤ x85 then (if x85 < (x83.length : Int) then (if (rd x83 x85) = 0 then (gimballaw09_MatOnes.l0 k x0 x83 x84 (wrap64 (x85 + 1)) x453000 x453001 x453002 x453003 x460000 x460001 x460002 x460003) else (some false)) else (none)) else (none)) else (gimballaw09_MatOnes.l1 k x0 0 x453000 x453001 x453002 x453003 x460000 x460001 x460002 x460003)
def gimballaw09_MatOnes.l1 : Nat → Int → Int → Int → Int → Int → List Int → Int → Int → Int → List Int → Option (Bool)
 | 0, _, _, _, _, _, _, _, _, _, _ => none
 | k + 1, x0, x10, x453000, x453001, x453002, x453003, x460000, x460001, x460002, x460003 => if x10 < x0 then (gimballaw09_MatOnes.l2 k x0 x10 0 x453000 x453001 x453002 x453003 x460000 x460001 x460002 x460003) else ((dyad_Of.f k 0).bind fun bt466 => ((mat_Matrix_Square.f k x460000 x460001 x460002 x460003).bind fun bt473 => ((dyad_Int.f k x0).bind fun bt478 => ((dyad_Num_Same.f k bt473.1 bt473.2.1 bt473.2.2 bt478.1 bt478.2.1 bt478.2.2).bind fun t483 => (if t483 = true then ((mat_Matrix_Square.f k x453000 x453001 x453002 x453003).bind fun bt484 => ((dyad_Num_Same.f k bt484.1 bt484.2.1 bt484.2.2 bt466.1 bt466.2.1 bt466.2.2.1).bind fun t489 => (some t489))) else (some false))))))
def gimballaw09_MatOnes.l2 : Nat → Int → Int → Int → Int → Int → Int → List Int → Int → Int → Int → List Int → Option (Bool)
 | 0, _, _, _, _, _, _, _, _, _, _, _ => none
 | k + 1, x0, x10, x11, x453000, x453001, x453002, x453003, x460000, x460001, x460002, x460003 => if x11 < x0 then (if x10 = x11 then ((mat_Matrix_At.f x460000 x460001 x460002 x460003 x10 x11).bind fun t464 => (if t464 = 4607182418800017408 then (gimballaw09_MatOnes.l2 k x0 x10 (wrap64 (x11 + 1)) x453000 x453001 x453002 x453003 x460000 x460001 x460002 x460003) else (some false))) else ((mat_Matrix_At.f x460000 x460001 x460002 x460003 x10 x11).bind fun t465 => (if t465 = 0 then (gimballaw09_MatOnes.l2 k x0 x10 (wrap64 (x11 + 1)) x453000 x453001 x453002 x453003 x460000 x460001 x460002 x460003) else (some false)))) else (gimballaw09_MatOnes.l1 k x0 (wrap64 (x10 + 1)) x453000 x453001 x453002 x453003 x460000 x460001 x460002 x460003)
end
def gimballaw09_MatOnes.f (k : Nat) (a0 : Int) (a1 : Int) : Option (Bool) := (gimballaw09_head.f k).bind fun t438 => (if t438 = true then (if a0 < 0 then (gimballaw09_MatOnes.j0 k a0 a1 true) else (if a1 < 0 then (gimballaw09_MatOnes.j0 k a0 a1 true) else (if a0 > 4096 then (gimballaw09_MatOnes.j0 k a0 a1 true) else (gimballaw09_MatOnes.j0 k a0 a1 (decide (a1 > 4096)))))) else (some false))
theorem gimballaw09_MatOnes.mono_l : ∀ k, (∀ y0 y1 y2, LeO (gimballaw09_MatOnes.j0 k y0 y1 y2) (gimballaw09_MatOnes.j0 (k + 1) y0 y1 y2)) ∧ (∀ y0 y1 y2 y3 y4 y5 y6 y7 y8 y9, LeO (gimballaw09_MatOnes.j1 k y0 y1 y2 y3 y4 y5 y6 y7 y8 y9) (gimballaw09_MatOnes.j1 (k + 1) y0 y1 y2 y3 y4 y5 y6 y7 y8 y9)) ∧ (∀ y0 y1 y2 y3 y4 y5 y6 y7 y8 y9 y10 y11, LeO (gimballaw09_MatOnes.l0 k y0 y1 y2 y3 y4 y5 y6 y7 y8 y9 y10 y11) (gimballaw09_MatOnes.l0 (k + 1) y0 y1 y2 y3 y4 y5 y6 y7 y8 y9 y10 y11)) ∧ (∀ y0 y1 y2 y3 y4 y5 y6 y7 y8 y9, LeO (gimballaw09_MatOnes.l1 k y0 y1 y2 y3 y4 y5 y6 y7 y8 y9) (gimballaw09_MatOnes.l1 (k + 1) y0 y1 y2 y3 y4 y5 y6 y7 y8 y9)) ∧ (∀ y0 y1 y2 y3 y4 y5 y6 y7 y8 y9 y10, LeO (gimballaw09_MatOnes.l2 k y0 y1 y2 y3 y4 y5 y6 y7 y8 y9 y10) (gimballaw09_MatOnes.l2 (k + 1) y0 y1 y2 y3 y4 y5 y6 y7 y8 y9 y10))
 | 0 => ⟨fun _ _ _ r h => by simp [gimballaw09_MatOnes.j0] at h, fun _ _ _ _ _ _ _ _ _ _ r h => by simp [gimballaw09_MatOnes.j1] at h, fun _ _ _ _ _ _ _ _ _ _ _ _ r h => by simp [gimballaw09_MatOnes.l0] at h, fun _ _ _ _ _ _ _ _ _ _ r h => by simp [gimballaw09_MatOnes.l1] at h, fun _ _ _ _ _ _ _ _ _ _ _ r h => by simp [gimballaw09_MatOnes.l2] at h⟩
 | k + 1 => by
  obtain ⟨ih0, ih1, ih2, ih3, ih4⟩ := gimballaw09_MatOnes.mono_l k
  refine ⟨?_, ?_, ?_, ?_, ?_⟩ <;> intros <;> (first | unfold gimballaw09_MatOnes.j0 | unfold gimballaw09_MatOnes.j1 | unfold gimballaw09_MatOnes.l0 | unfold gimballaw09_MatOnes.l1 | unfold gimballaw09_MatOnes.l2) <;>
   repeat' with_reducible first | apply ih0 | apply ih1 | apply ih2 | apply ih3 | apply ih4 | apply dyad_Int.mono | apply dyad_Num_Same.mono | apply dyad_Of.mono | apply gimballaw09_head.mono | apply mat_Matrix_Check.mono | apply mat_Matrix_Finite.mono | apply mat_Matrix_Square.mono | apply mat_One.mono | exact LeO.refl _ | exact LeO.none _ | refine LeO.ite ?_ ?_ | refine LeO.bind ?_ (fun _ => ?_)
theorem gimballaw09_MatOnes.mono : ∀ a0 a1 k, LeO (gimballaw09_MatOnes.f k a0 a1) (gimballaw09_MatOnes.f (k + 1) a0 a1) := by
 intro a0 a1 k
 obtain ⟨ih0, ih1, ih2, ih3, ih4⟩ := gimballaw09_MatOnes.mono_l k
 unfold gimballaw09_MatOnes.f
 repeat' with_reducible first | apply ih0 | apply ih1 | apply ih2 | apply ih3 | apply ih4 | apply dyad_Int.mono | apply dyad_Num_Same.mono | apply dyad_Of.mono | apply gimballaw09_head.mono | apply mat_Matrix_Check.mono | apply mat_Matrix_Finite.mono | apply mat_Matrix_Square.mono | apply mat_One.mono | exact LeO.refl _ | exact LeO.none _ | refine LeO.ite ?_ ?_ | refine LeO.bind ?_ (fun _ => ?_)
def gimballaw09_MatOnes.T30 : Bool × List (List Nat × List Nat) := (true, [([], []), ([0], [0]), ([], []), ([2, 1], [2]), ([1, 3, 3], [1, 3]), ([4, 4], [4]), ([5], [5]), ([6, 5, 5], [5, 6]), ([5], [5]), ([7, 8, 7, 5], [5, 7, 8]), ([5, 9], [5, 9]), ([10, 9, 0, 1, 2, 3, 4, 5, 6, 7, 8, 9, 10], [10])])
def gimballaw09_MatOnes.B30 : List Nat := [0, 1, 0, 7, 15, 31, 63, 127, 63, 511, 1023, 2047]
theorem gimballaw09_MatOnes.tab30 : rtab .any (opsOf Tryd.f4 30) = gimballaw09_MatOnes.T30 := by kernel_rfl
theorem gimballaw09_MatOnes.bits30 : waitsOk gimballaw09_MatOnes.T30.2 gimballaw09_MatOnes.B30 = true := by kernel_rfl
set_option maxHeartbeats 8000000 in
set_option maxRecDepth 100000 in
theorem gimballaw09_MatOnes.calls (k : Nat) (a0 : Int) (a1 : Int) (r : Bool) (w : World) (hT : TabW w) (hLW : r = true) (h : gimballaw09_MatOnes.f k a0 a1 = some r) :
  Calls Tryd.prog 4 #[.int .i64 a0, .int .i64 a1] w fun e w' => e = .returned (.bool r) ∧ Below w.heap.size w w' := by
 have hu25 := Tryd.underlying25
 have hu29 := Tryd.underlying29
 have HB := Aside0.mk (Below.refl w.heap.size w)
 have H : ((gimballaw09_head.f k).bind fun t438 => (if t438 = true then (if a0 < 0 then (gimballaw09_MatOnes.j0 k a0 a1 true) else (if a1 < 0 then (gimballaw09_MatOnes.j0 k a0 a1 true) else (if a0 > 4096 then (gimballaw09_MatOnes.j0 k a0 a1 true) else (gimballaw09_MatOnes.j0 k a0 a1 (decide (a1 > 4096)))))) else (some false))) = some r := h
 clear h
 obtain ⟨t438, A30, H⟩ := Option.bind_eq_some_iff.mp H
 (try dsimp -simprocs only at H)
 have A3 := Aside0.mk A30
 clear A30
 by_cases c4 : t438 = true
 rotate_left
 ·
  replace c4 := Bool.eq_false_iff.mpr c4
  subst c4
  rw [if_neg (show ¬ (false = true) by decide)] at H
  rw [hLW] at H
  exact absurd H (by simp)

 subst c4
 rw [if_pos rfl] at H
 have HC5 := Aside0.mk H
 clear H
 go_enter Tryd.func4, Tryd.ntmps4
 go_upto_region 3 with (first | ((with_reducible refine gate_callee (f := 5) rfl ?_); refine goesL_ (some 15) rfl rfl Tryd.func5 (by kernel_rfl) rfl #[] rfl ga ?_; (with_reducible refine (gimballaw09_head.calls k  true _ A3.out).mono ?_); rintro e w6 ⟨rfl, hb⟩; refine ⟨_, rfl, ?_⟩; refine ax1 (below_step bel hb) ?_; clear HB; intro HB; (try clear hb)))
 (try simp only [Act.put, sa0, sa1, sa2])
 go_cut [30] (fun v30 wc => ∃ (kq : Nat) (x30_4 : Bool), v30 = .bool x30_4 ∧ Aside0 (gimballaw09_MatOnes.j0 kq a0 a1 x30_4 = some r) ∧ Aside0 (kq ≤ k) ∧ Aside0 (Below w.heap.size w wc))
 case first =>
  have H := HC5.out
  clear HC5
  by_cases c7 : a0 < 0
  ·
   rw [if_pos c7] at H
   have c7b0 : decide (a0 < 0) = true := decide_eq_true c7
   clear c7
   (first | rw [c7b0] | (simp only [i64_w, i32_w]; rw [c7b0]) | skip)
   have H' := Aside0.mk H
   clear H
   go_wp2
   go_meet
   case rel => exact ⟨_, (true), (by first | rfl | (simp; done) | (simp [*]; done)), H', ⟨by first | omega | exact Nat.le_refl _⟩, ⟨bel⟩⟩
  ·
   rw [if_neg c7] at H
   have c7b0 : decide (a0 < 0) = false := decide_eq_false c7
   clear c7
   (first | rw [c7b0] | (simp only [i64_w, i32_w]; rw [c7b0]) | skip)
   by_cases c8 : a1 < 0
   ·
    rw [if_pos c8] at H
    have c8b0 : decide (a1 < 0) = true := decide_eq_true c8
    clear c8
    have H' := Aside0.mk H
    clear H
    go_wp2
    go_meet
    case rel => exact ⟨_, (true), (by first | rfl | (simp; done) | (simp [*]; done)), H', ⟨by first | omega | exact Nat.le_refl _⟩, ⟨bel⟩⟩
   ·
    rw [if_neg c8] at H
    have c8b0 : decide (a1 < 0) = false := decide_eq_false c8
    clear c8
    by_cases c9 : a0 > 4096
    rotate_left
    ·
     rw [if_neg c9] at H
     have c9b0 : decide (4096 < a0) = false := decide_eq_false c9
     clear c9
     have H' := Aside0.mk H
     clear H
     go_wp2
     go_meet
     case rel => exact ⟨_, (decide (a1 > 4096)), (by first | rfl | (simp; done) | (simp [*]; done)), H', ⟨by first | omega | exact Nat.le_refl _⟩, ⟨bel⟩⟩
    rw [if_pos c9] at H
    have c9b0 : decide (4096 < a0) = true := decide_eq_true c9
    clear c9
    have H' := Aside0.mk H
    clear H
    go_wp2
    go_meet
    case rel => exact ⟨_, (true), (by first | rfl | (simp; done) | (simp [*]; done)), H', ⟨by first | omega | exact Nat.le_refl _⟩, ⟨bel⟩⟩
 case rest =>
  clear HC5
  try clear p2
  try clear c4
  try clear c5
  try clear c7
  try clear c7b0
  try clear c8
  try clear c8b0
  try clear c9
  try clear c9b0
  obtain ⟨kq, x30_4, rfl, HA, HJ4, HB⟩ := hcut
  cases kq with
  | zero => exact absurd HA.out (by simp [gimballaw09_MatOnes.j0])
  | succ kj4 =>
   have H := HA.out
   clear HA
   simp only [gimballaw09_MatOnes.j0] at H
   by_cases c10 : x30_4 = true
   ·
    subst c10
    rw [if_pos rfl] at H
    obtain ⟨⟨t439, t440, t441, t442⟩, A110, H⟩ := Option.bind_eq_some_iff.mp H
    (try dsimp -simprocs only at H)
    have A11 := Aside0.mk A110
    clear A110
    by_cases c12 : t439 = 0
    rotate_left
    ·
     rw [if_neg c12] at H
     have c12b0 : (t439 == 0) = false := beq_eq_false_iff_ne.mpr c12
     have c12b1 : (t439 != 0) = true := bne_iff_ne.mpr c12
     rw [hLW] at H
     exact absurd H (by simp)
    rw [if_pos c12] at H
    have c12b0 : (t439 == 0) = true := beq_iff_eq.mpr c12
    have c12b1 : (t439 != 0) = false := bne_eq_false_iff_eq.mpr c12
    clear c12
    by_cases c13 : t440 = 0
    rotate_left
    ·
     rw [if_neg c13] at H
     have c13b0 : (t440 == 0) = false := beq_eq_false_iff_ne.mpr c13
     have c13b1 : (t440 != 0) = true := bne_iff_ne.mpr c13
     rw [hLW] at H
     exact absurd H (by simp)
    rw [if_pos c13] at H
    have c13b0 : (t440 == 0) = true := beq_iff_eq.mpr c13
    have c13b1 : (t440 != 0) = false := bne_eq_false_iff_eq.mpr c13
    clear c13
    obtain rfl := Option.some.inj H
    go_wp2_with (first | ((with_reducible refine gate_callee (f := 20) rfl ?_); refine goesL_ (some 33) rfl rfl Tryd.func20 (by kernel_rfl) rfl #[.int .i64 a0, .int .i64 a1] rfl ga ?_; (with_reducible refine (mat_New.calls a0 a1 t439 t440 t441 t442 _ A11.out).mono ?_); rintro e w14 ⟨v443, rfl, ho0, hb⟩; refine ⟨_, rfl, ?_⟩; refine ax2 (Kd.R_lower ho0 (below_size bel)) (below_step bel hb) ?_; clear HB; intro HO444 HB; (try clear hb); (try clear ho0)) | ((with_reducible refine gate_dst (N := 5) rfl ?_); refine gbox (N := 5) (cs := #[.int .i64 0, .int .i64 0, .int .i64 0, .slice none 0 0]) (t := 25) ?_; intro gb445 hg w15 hbox hb; refine ax5 (Kd.R_below (kr HO444) hb) (below_step bel hb) hbox ((ge hg : w.heap.size ≤ gb445)) ((ge hg : w.heap.size ≤ gb445)) ?_; clear HO444; clear HB; intro HO444 HB BK445 GW445 GE445; clear hb hbox hg; have hcz16_0 := bc BK445 0 rfl; have hcz16_1 := bc BK445 1 rfl; have hcz16_2 := bc BK445 2 rfl; have hcz16_3 := bc BK445 3 rfl; have hfz16_0 := blk_frozen BK445.out 0; have hfz16_1 := blk_frozen BK445.out 1; have hfz16_2 := blk_frozen BK445.out 2; have hfz16_3 := blk_frozen BK445.out 3; obtain ⟨Ao17, co17, eo17⟩ := Kd.R_slice HO444.out; subst eo17))
    go_ret
    exact ⟨er, bes⟩
   ·
    replace c10 := Bool.eq_false_iff.mpr c10
    subst c10
    rw [if_neg (show ¬ (false = true) by decide)] at H
    obtain ⟨⟨t446, t447, t448, t449⟩, A180, H⟩ := Option.bind_eq_some_iff.mp H
    (try dsimp -simprocs only at H)
    have A18 := Aside0.mk A180
    clear A180
    obtain ⟨⟨t453, t454, t455, t456⟩, A190, H⟩ := Option.bind_eq_some_iff.mp H
    (try dsimp -simprocs only at H)
    have A19 := Aside0.mk A190
    clear A190
    have HC20 := Aside0.mk H
    clear H
    go_upto_region 10 with (first | ((with_reducible refine gate_callee (f := 20) rfl ?_); refine goesL_ (some 54) rfl rfl Tryd.func20 (by kernel_rfl) rfl #[.int .i64 (Go.bits .and .i64 a0 31), .int .i64 (Go.bits .and .i64 a1 31)] rfl ga ?_; (with_reducible refine (mat_New.calls (Go.bits .and .i64 a0 31) (Go.bits .and .i64 a1 31) t446 t447 t448 t449 _ A18.out).mono ?_); rintro e w21 ⟨v450, rfl, ho0, hb⟩; refine ⟨_, rfl, ?_⟩; refine ax2 (Kd.R_lower ho0 (below_size bel)) (below_step bel hb) ?_; clear HB; intro HO451 HB; (try clear hb); (try clear ho0)) | ((with_reducible refine gate_dst (N := 6) rfl ?_); refine gbox (N := 6) (cs := #[.int .i64 0, .int .i64 0, .int .i64 0, .slice none 0 0]) (t := 25) ?_; intro gb452 hg w22 hbox hb; refine ax5 (Kd.R_below (kr HO451) hb) (below_step bel hb) hbox ((ge hg : w.heap.size ≤ gb452)) ((ge hg : w.heap.size ≤ gb452)) ?_; clear HO451; clear HB; intro HO451 HB BK452 GW452 GE452; clear hb hbox hg; have hcz23_0 := bc BK452 0 rfl; have hcz23_1 := bc BK452 1 rfl; have hcz23_2 := bc BK452 2 rfl; have hcz23_3 := bc BK452 3 rfl; have hfz23_0 := blk_frozen BK452.out 0; have hfz23_1 := blk_frozen BK452.out 1; have hfz23_2 := blk_frozen BK452.out 2; have hfz23_3 := blk_frozen BK452.out 3; obtain ⟨Ao24, co24, eo24⟩ := Kd.R_slice HO451.out; subst eo24) | ((with_reducible refine gate_callee (f := 21) rfl ?_); refine goesL_ (some 56) rfl rfl Tryd.func21 (by kernel_rfl) rfl #[.int .i64 (Go.bits .and .i64 a0 31)] rfl ga ?_; (with_reducible refine (mat_One.calls kj4 (Go.bits .and .i64 a0 31) t453 t454 t455 t456 _ A19.out).mono ?_); rintro e w25 ⟨v457, rfl, ho0, hb⟩; refine ⟨_, rfl, ?_⟩; refine ax4 (Kd.R_elder' (by (with_reducible repeat (first | apply Kd.R_alloc | apply Kd.R_drewN | apply Kd.R_drew)); exact (Kd.R_mono (Kd.R_far (p := ⟨gb452, 3, none⟩) (Kd.R_far (p := ⟨gb452, 2, none⟩) (Kd.R_far (p := ⟨gb452, 1, none⟩) (Kd.R_far (p := ⟨gb452, 0, none⟩) (Kd.R_types HO451.out BK452.out (by decide)) (fun _ hk => hk.2) (.int .i64 t446)) (fun _ hk => hk.2) (.int .i64 t447)) (fun _ hk => hk.2) (.int .i64 t448)) (fun _ hk => hk.2) (.slice Ao24 t449.length co24)) (fun _ h_ => h_.1))) (Kd.R_base ho0) hb) (Kd.R_lower (Kd.R_new' ho0 (Kd.R_lt (by (with_reducible repeat (first | apply Kd.R_alloc | apply Kd.R_drewN | apply Kd.R_drew)); exact (Kd.R_mono (Kd.R_far (p := ⟨gb452, 3, none⟩) (Kd.R_far (p := ⟨gb452, 2, none⟩) (Kd.R_far (p := ⟨gb452, 1, none⟩) (Kd.R_far (p := ⟨gb452, 0, none⟩) (Kd.R_types HO451.out BK452.out (by decide)) (fun _ hk => hk.2) (.int .i64 t446)) (fun _ hk => hk.2) (.int .i64 t447)) (fun _ hk => hk.2) (.int .i64 t448)) (fun _ hk => hk.2) (.slice Ao24 t449.length co24)) (fun _ h_ => h_.1))))) (below_size bes)) (blk_below (g := gb452) (o := .cells #[.int .i64 t446, .int .i64 t447, .int .i64 t448, .slice Ao24 t449.length co24] 25 (0, 0)) (by (with_reducible repeat (first | refine blk_drewN ?_ _ | refine blk_drew ?_ | refine blk_alloc ?_ _)); refine blk_put (cs := #[.int .i64 t446, .int .i64 t447, .int .i64 t448, .slice none 0 0]) ?_ 3 _ rfl; (with_reducible repeat (first | refine blk_drewN ?_ _ | refine blk_drew ?_ | refine blk_alloc ?_ _)); refine blk_put (cs := #[.int .i64 t446, .int .i64 t447, .int .i64 0, .slice none 0 0]) ?_ 2 _ rfl; (with_reducible repeat (first | refine blk_drewN ?_ _ | refine blk_drew ?_ | refine blk_alloc ?_ _)); refine blk_put (cs := #[.int .i64 t446, .int .i64 0, .int .i64 0, .slice none 0 0]) ?_ 1 _ rfl; (with_reducible repeat (first | refine blk_drewN ?_ _ | refine blk_drew ?_ | refine blk_alloc ?_ _)); refine blk_put (cs := #[.int .i64 0, .int .i64 0, .int .i64 0, .slice none 0 0]) ?_ 0 _ rfl; (with_reducible repeat (first | refine blk_drewN ?_ _ | refine blk_drew ?_ | refine blk_alloc ?_ _)); exact BK452.out) hb) (below_step bes hb) ?_; clear HO451; clear BK452; clear HB; intro HO451 HO458 BK452 HB; (try clear hb); (try clear ho0)) | ((with_reducible refine gate_dst (N := 7) rfl ?_); refine gbox (N := 7) (cs := #[.int .i64 0, .int .i64 0, .int .i64 0, .slice none 0 0]) (t := 25) ?_; intro gb459 hg w26 hbox hb; refine ax9 (Kd.R_below (kr HO451) hb) (Kd.R_below (kr HO458) hb) (bb BK452 hb) (below_step bes hb) hbox ((ge hg : w.heap.size ≤ gb459)) ((ge hg : w.heap.size ≤ gb459)) (nl hg BK452) (ng hg BK452) ?_; clear HO451; clear HO458; clear BK452; clear HB; intro HO451 HO458 BK452 HB BK459 GW459 GE459 NB452_459 NB459_452; clear hb hbox hg; have hnb27 := NB459_452.out; have hnc27 := NB452_459.out; have hcz28_0 := bc BK459 0 rfl; have hcz28_1 := bc BK459 1 rfl; have hcz28_2 := bc BK459 2 rfl; have hcz28_3 := bc BK459 3 rfl; have hfz28_0 := blk_frozen BK459.out 0; have hfz28_1 := blk_frozen BK459.out 1; have hfz28_2 := blk_frozen BK459.out 2; have hfz28_3 := blk_frozen BK459.out 3; obtain ⟨Ao29, co29, eo29⟩ := Kd.R_slice HO458.out; subst eo29))
    (try simp only [Act.put, sa0, sa1, sa2])
    go_cut [81] (fun v81 wc => ∃ (kq : Nat) (x81_19 : Bool), v81 = .bool x81_19 ∧ Aside0 (gimballaw09_MatOnes.j1 kq (Go.bits .and .i64 a0 31) x81_19 t446 t447 t448 t449 t453 t454 t455 t456 = some r) ∧ Aside0 (kq ≤ kj4) ∧ Aside0 (Kd.R (Kd.int .u64) 32 wc w.heap.size (fun k_ => some k_ ≠ ((.slice Ao29 t456.length co29) : Value).ownBlock) (.slice Ao24 t449.length co24) t449) ∧ Aside0 (Kd.R (Kd.int .u64) 32 wc w.heap.size (fun k_ => some k_ ≠ ((.slice Ao24 t449.length co24) : Value).ownBlock) (.slice Ao29 t456.length co29) t456) ∧ Aside0 (wc.heap[gb452]? = some (.cells #[.int .i64 t446, .int .i64 t447, .int .i64 t448, (.slice Ao24 t449.length co24)] 25 (0, 0))) ∧ Aside0 (wc.heap[gb459]? = some (.cells #[.int .i64 t453, .int .i64 t454, .int .i64 t455, (.slice Ao29 t456.length co29)] 25 (0, 0))) ∧ Aside0 (Below w.heap.size w wc))
    case first =>
     have H := HC20.out
     clear HC20
     obtain ⟨t460, A300, H⟩ := Option.bind_eq_some_iff.mp H
     (try dsimp -simprocs only at H)
     have A30 := Aside0.mk A300
     clear A300
     by_cases c31 : t460 = 0
     rotate_left
     ·
      rw [if_neg c31] at H
      have c31b0 : (t460 == 0) = false := beq_eq_false_iff_ne.mpr c31
      have c31b1 : (t460 != 0) = true := bne_iff_ne.mpr c31
      (first | rw [c31b0] | (simp only [i64_w, i32_w]; rw [c31b0]) | skip)
      rw [hLW] at H
      exact absurd H (by cases kj4 <;> simp [gimballaw09_MatOnes.j1])
     rw [if_pos c31] at H
     have c31b0 : (t460 == 0) = true := beq_iff_eq.mpr c31
     have c31b1 : (t460 != 0) = false := bne_eq_false_iff_eq.mpr c31
     clear c31
     (first | rw [c31b0] | (simp only [i64_w, i32_w]; rw [c31b0]) | skip)
     by_cases c32 : t446 = (Go.bits .and .i64 a0 31)
     rotate_left
     ·
      rw [if_neg c32] at H
      have c32b0 : (t446 == (Go.bits .and .i64 a0 31)) = false := beq_eq_false_iff_ne.mpr c32
      have c32b1 : (t446 != (Go.bits .and .i64 a0 31)) = true := bne_iff_ne.mpr c32
      rw [hLW] at H
      exact absurd H (by cases kj4 <;> simp [gimballaw09_MatOnes.j1])
     rw [if_pos c32] at H
     have c32b0 : (t446 == (Go.bits .and .i64 a0 31)) = true := beq_iff_eq.mpr c32
     have c32b1 : (t446 != (Go.bits .and .i64 a0 31)) = false := bne_eq_false_iff_eq.mpr c32
     clear c32
     by_cases c33 : t447 = (Go.bits .and .i64 a1 31)
     rotate_left
     ·
      rw [if_neg c33] at H
      have c33b0 : (t447 == (Go.bits .and .i64 a1 31)) = false := beq_eq_false_iff_ne.mpr c33
      have c33b1 : (t447 != (Go.bits .and .i64 a1 31)) = true := bne_iff_ne.mpr c33
      rw [hLW] at H
      exact absurd H (by cases kj4 <;> simp [gimballaw09_MatOnes.j1])
     rw [if_pos c33] at H
     have c33b0 : (t447 == (Go.bits .and .i64 a1 31)) = true := beq_iff_eq.mpr c33
     have c33b1 : (t447 != (Go.bits .and .i64 a1 31)) = false := bne_eq_false_iff_eq.mpr c33
     clear c33
     obtain ⟨t461, A340, H⟩ := Option.bind_eq_some_iff.mp H
     (try dsimp -simprocs only at H)
     have A34 := Aside0.mk A340
     clear A340
     by_cases c35 : t461 = 0
     rotate_left
     ·
      rw [if_neg c35] at H
      have c35b0 : (t461 == 0) = false := beq_eq_false_iff_ne.mpr c35
      have c35b1 : (t461 != 0) = true := bne_iff_ne.mpr c35
      rw [hLW] at H
      exact absurd H (by cases kj4 <;> simp [gimballaw09_MatOnes.j1])
     rw [if_pos c35] at H
     have c35b0 : (t461 == 0) = true := beq_iff_eq.mpr c35
     have c35b1 : (t461 != 0) = false := bne_eq_false_iff_eq.mpr c35
     clear c35
     obtain ⟨t462, A360, H⟩ := Option.bind_eq_some_iff.mp H
     (try dsimp -simprocs only at H)
     have A36 := Aside0.mk A360
     clear A360
     have H' := Aside0.mk H
     clear H
     have hnb37 := NB452_459.out
     have hnc37 := NB459_452.out
     have hcz38_0 := bc BK452 0 rfl
     have hcz38_1 := bc BK452 1 rfl
     have hcz38_2 := bc BK452 2 rfl
     have hcz38_3 := bc BK452 3 rfl
     have hfz38_0 := blk_frozen BK452.out 0
     have hfz38_1 := blk_frozen BK452.out 1
     have hfz38_2 := blk_frozen BK452.out 2
     have hfz38_3 := blk_frozen BK452.out 3
     go_wp2_with (first | ((with_reducible refine gate_callee (f := 22) rfl ?_); refine goesL_ (some 58) rfl rfl Tryd.func22 (by kernel_rfl) rfl #[.agg #[.int .i64 t446, .int .i64 t447, .int .i64 t448, .slice Ao24 t449.length co24]] rfl ga ?_; (with_reducible refine (mat_Matrix_Check.calls kj4 t446 t447 t448 _ _ t449 t460 _ ?side1 ?side2 A30.out).mono ?_); (case side1 => refine (Kd.R_reads' (e := 32) (base := w.heap.size) (ok := fun k_ => (True ∧ some k_ ≠ (.slice Ao29 t456.length co29 : Value).ownBlock)) (n := t449.length) (c := co24) ?_).2.2; exact (by (with_reducible repeat (first | apply Kd.R_alloc | apply Kd.R_drewN | apply Kd.R_drew)); exact (Kd.R_mono (Kd.R_far (p := ⟨gb459, 3, none⟩) (Kd.R_far (p := ⟨gb459, 2, none⟩) (Kd.R_far (p := ⟨gb459, 1, none⟩) (Kd.R_far (p := ⟨gb459, 0, none⟩) (Kd.R_types HO451.out BK459.out (by decide)) (fun _ hk => hk.2) (.int .i64 t453)) (fun _ hk => hk.2) (.int .i64 t454)) (fun _ hk => hk.2) (.int .i64 t455)) (fun _ hk => hk.2) (.slice Ao29 t456.length co29)) (fun _ h_ => h_.1)))); (case side2 => exact (Kd.R_reads' HO451.out).2.1); rintro e w39 ⟨rfl, hb⟩; refine ⟨_, rfl, ?_⟩; refine ax5 (Kd.R_below (by (with_reducible repeat (first | apply Kd.R_alloc | apply Kd.R_drewN | apply Kd.R_drew)); exact (Kd.R_mono (Kd.R_far (p := ⟨gb459, 3, none⟩) (Kd.R_far (p := ⟨gb459, 2, none⟩) (Kd.R_far (p := ⟨gb459, 1, none⟩) (Kd.R_far (p := ⟨gb459, 0, none⟩) (Kd.R_types HO451.out BK459.out (by decide)) (fun _ hk => hk.2) (.int .i64 t453)) (fun _ hk => hk.2) (.int .i64 t454)) (fun _ hk => hk.2) (.int .i64 t455)) (fun _ hk => hk.2) (.slice Ao29 t456.length co29)) (fun _ h_ => h_.1))) hb) (Kd.R_below (by (with_reducible repeat (first | apply Kd.R_alloc | apply Kd.R_drewN | apply Kd.R_drew)); exact (Kd.R_mono (Kd.R_far (p := ⟨gb459, 3, none⟩) (Kd.R_far (p := ⟨gb459, 2, none⟩) (Kd.R_far (p := ⟨gb459, 1, none⟩) (Kd.R_far (p := ⟨gb459, 0, none⟩) (Kd.R_types HO458.out BK459.out (by decide)) (fun _ hk => hk.2) (.int .i64 t453)) (fun _ hk => hk.2) (.int .i64 t454)) (fun _ hk => hk.2) (.int .i64 t455)) (fun _ hk => hk.2) (.slice Ao29 t456.length co29)) (fun _ h_ => h_.1))) hb) (blk_below (g := gb452) (o := .cells #[.int .i64 t446, .int .i64 t447, .int .i64 t448, .slice Ao24 t449.length co24] 25 (0, 0)) (by (with_reducible repeat (first | refine blk_drewN ?_ _ | refine blk_drew ?_ | refine blk_alloc ?_ _)); refine blk_far ?_ NB452_459.out _; (with_reducible repeat (first | refine blk_drewN ?_ _ | refine blk_drew ?_ | refine blk_alloc ?_ _)); refine blk_far ?_ NB452_459.out _; (with_reducible repeat (first | refine blk_drewN ?_ _ | refine blk_drew ?_ | refine blk_alloc ?_ _)); refine blk_far ?_ NB452_459.out _; (with_reducible repeat (first | refine blk_drewN ?_ _ | refine blk_drew ?_ | refine blk_alloc ?_ _)); refine blk_far ?_ NB452_459.out _; (with_reducible repeat (first | refine blk_drewN ?_ _ | refine blk_drew ?_ | refine blk_alloc ?_ _)); exact BK452.out) hb) (blk_below (g := gb459) (o := .cells #[.int .i64 t453, .int .i64 t454, .int .i64 t455, .slice Ao29 t456.length co29] 25 (0, 0)) (by (with_reducible repeat (first | refine blk_drewN ?_ _ | refine blk_drew ?_ | refine blk_alloc ?_ _)); refine blk_put (cs := #[.int .i64 t453, .int .i64 t454, .int .i64 t455, .slice none 0 0]) ?_ 3 _ rfl; (with_reducible repeat (first | refine blk_drewN ?_ _ | refine blk_drew ?_ | refine blk_alloc ?_ _)); refine blk_put (cs := #[.int .i64 t453, .int .i64 t454, .int .i64 0, .slice none 0 0]) ?_ 2 _ rfl; (with_reducible repeat (first | refine blk_drewN ?_ _ | refine blk_drew ?_ | refine blk_alloc ?_ _)); refine blk_put (cs := #[.int .i64 t453, .int .i64 0, .int .i64 0, .slice none 0 0]) ?_ 1 _ rfl; (with_reducible repeat (first | refine blk_drewN ?_ _ | refine blk_drew ?_ | refine blk_alloc ?_ _)); refine blk_put (cs := #[.int .i64 0, .int .i64 0, .int .i64 0, .slice none 0 0]) ?_ 0 _ rfl; (with_reducible repeat (first | refine blk_drewN ?_ _ | refine blk_drew ?_ | refine blk_alloc ?_ _)); exact BK459.out) hb) (below_step bes hb) ?_; clear HO451; clear HO458; clear BK452; clear BK459; clear HB; intro HO451 HO458 BK452 BK459 HB; (try clear hb); have hcz40_0 := bc BK452 0 rfl; have hcz40_1 := bc BK452 1 rfl; have hcz40_2 := bc BK452 2 rfl; have hcz40_3 := bc BK452 3 rfl; have hfz40_0 := blk_frozen BK452.out 0; have hfz40_1 := blk_frozen BK452.out 1; have hfz40_2 := blk_frozen BK452.out 2; have hfz40_3 := blk_frozen BK452.out 3; have hcz41_0 := bc BK459 0 rfl; have hcz41_1 := bc BK459 1 rfl; have hcz41_2 := bc BK459 2 rfl; have hcz41_3 := bc BK459 3 rfl; have hfz41_0 := blk_frozen BK459.out 0; have hfz41_1 := blk_frozen BK459.out 1; have hfz41_2 := blk_frozen BK459.out 2; have hfz41_3 := blk_frozen BK459.out 3) | (go_at_call 22; (with_reducible refine (mat_Matrix_Check.calls kj4 t453 t454 t455 _ _ t456 t461 _ ?side1 ?side2 A34.out).mono ?_); (case side1 => exact ks HO458); (case side2 => exact (Kd.R_reads' HO458.out).2.1); rintro e w42 ⟨rfl, hb⟩; refine ax5 (Kd.R_below (kr HO451) hb) (Kd.R_below (kr HO458) hb) (bb BK452 hb) (bb BK459 hb) (below_step bes hb) ?_; clear HO451; clear HO458; clear BK452; clear BK459; clear HB; intro HO451 HO458 BK452 BK459 HB; (try clear hb); have hcz43_0 := bc BK452 0 rfl; have hcz43_1 := bc BK452 1 rfl; have hcz43_2 := bc BK452 2 rfl; have hcz43_3 := bc BK452 3 rfl; have hfz43_0 := blk_frozen BK452.out 0; have hfz43_1 := blk_frozen BK452.out 1; have hfz43_2 := blk_frozen BK452.out 2; have hfz43_3 := blk_frozen BK452.out 3) | (go_at_call 11; (with_reducible refine (mat_Matrix_Finite.calls kj4 t446 t447 t448 _ _ t449 t462 _ ?side1 ?side2 A36.out).mono ?_); (case side1 => exact ks HO451); (case side2 => exact (Kd.R_reads' HO451.out).2.1); rintro e w44 ⟨rfl, hb⟩; refine ax5 (Kd.R_below (kr HO451) hb) (Kd.R_below (kr HO458) hb) (bb BK452 hb) (bb BK459 hb) (below_step bes hb) ?_; clear HO451; clear HO458; clear BK452; clear BK459; clear HB; intro HO451 HO458 BK452 BK459 HB; (try clear hb)))
     go_meet
     case rel => exact ⟨_, (!t462), (by first | rfl | (simp; done) | (simp [*]; done)), H', ⟨by have := HJ4.out; first | omega | exact Nat.le_refl _⟩, ⟨by (with_reducible repeat (first | apply Kd.R_alloc | apply Kd.R_drewN | apply Kd.R_drew)); exact Kd.R_mono HO451.out (fun _ hk => hk.2)⟩, ⟨by (with_reducible repeat (first | apply Kd.R_alloc | apply Kd.R_drewN | apply Kd.R_drew)); exact Kd.R_mono HO458.out (fun _ hk => hk.2)⟩, ⟨kb BK452⟩, ⟨kb BK459⟩, ⟨bes⟩⟩
    case rest =>
     clear HC20
     try clear c1
     try clear c2
     try clear p2
     try clear c3
     try clear c4
     try clear c5
     try clear c7
     try clear c7b0
     try clear c8
     try clear c8b0
     try clear c9
     try clear c9b0
     try clear c10
     try clear c12
     try clear c12b0
     try clear c12b1
     try clear c13
     try clear c13b0
     try clear c13b1
     try clear c20
     try clear c21
     try clear c22
     try clear c27
     try clear c31
     try clear c31b0
     try clear c31b1
     try clear c32
     try clear c32b0
     try clear c32b1
     try clear c33
     try clear c33b0
     try clear c33b1
     try clear c35
     try clear c35b0
     try clear c35b1
     try clear c37
     try clear hcz16_0
     try clear hcz16_1
     try clear hcz16_2
     try clear hcz16_3
     try clear hcz23_0
     try clear hcz23_1
     try clear hcz23_2
     try clear hcz23_3
     try clear hcz28_0
     try clear hcz28_1
     try clear hcz28_2
     try clear hcz28_3
     try clear hcz38_0
     try clear hcz38_1
     try clear hcz38_2
     try clear hcz38_3
     try clear hcz40_0
     try clear hcz40_1
     try clear hcz40_2
     try clear hcz40_3
     try clear hcz41_0
     try clear hcz41_1
     try clear hcz41_2
     try clear hcz41_3
     try clear hcz43_0
     try clear hcz43_1
     try clear hcz43_2
     try clear hcz43_3
     try clear hfz16_0
     try clear hfz16_1
     try clear hfz16_2
     try clear hfz16_3
     try clear hfz23_0
     try clear hfz23_1
     try clear hfz23_2
     try clear hfz23_3
     try clear hfz28_0
     try clear hfz28_1
     try clear hfz28_2
     try clear hfz28_3
     try clear hfz38_0
     try clear hfz38_1
     try clear hfz38_2
     try clear hfz38_3
     try clear hfz40_0
     try clear hfz40_1
     try clear hfz40_2
     try clear hfz40_3
     try clear hfz41_0
     try clear hfz41_1
     try clear hfz41_2
     try clear hfz41_3
     try clear hfz43_0
     try clear hfz43_1
     try clear hfz43_2
     try clear hfz43_3
     try clear p2
     obtain ⟨kq, x81_19, rfl, HA, HJ19, HO_453003, HO_460003, BK452, BK459, HB⟩ := hcut
     cases kq with
     | zero => exact absurd HA.out (by simp [gimballaw09_MatOnes.j1])
     | succ kj19 =>
      have H := HA.out
      clear HA
      simp only [gimballaw09_MatOnes.j1] at H
      by_cases c45 : x81_19 = true
      ·
       subst c45
       rw [if_pos rfl] at H
       rw [hLW] at H
       exact absurd H (by simp)
      ·
       replace c45 := Bool.eq_false_iff.mpr c45
       subst c45
       rw [if_neg (show ¬ (false = true) by decide)] at H
       have H' := Aside0.mk H
       clear H
       have hnb46 := NB452_459.out
       have hnc46 := NB459_452.out
       have hcz47_0 := bc BK452 0 rfl
       have hcz47_1 := bc BK452 1 rfl
       have hcz47_2 := bc BK452 2 rfl
       have hcz47_3 := bc BK452 3 rfl
       have hfz47_0 := blk_frozen BK452.out 0
       have hfz47_1 := blk_frozen BK452.out 1
       have hfz47_2 := blk_frozen BK452.out 2
       have hfz47_3 := blk_frozen BK452.out 3
       go_wp2
       go_loopg [85] kj19 (fun kq v85 w' => ∃ (x85_3 : Int), v85 = .int .i64 x85_3 ∧ Aside0 (gimballaw09_MatOnes.l0 kq (Go.bits .and .i64 a0 31) t449 (t449.length : Int) x85_3 t446 t447 t448 t449 t453 t454 t455 t456 = some r) ∧ Aside0 (kq ≤ kj19) ∧ Aside0 (Kd.R (Kd.int .u64) 32 w' w.heap.size (fun k_ => some k_ ≠ ((.slice Ao29 t456.length co29) : Value).ownBlock) (.slice Ao24 t449.length co24) t449) ∧ Aside0 (Kd.R (Kd.int .u64) 32 w' w.heap.size (fun k_ => some k_ ≠ ((.slice Ao29 t456.length co29) : Value).ownBlock) (.slice Ao24 t449.length co24) t449) ∧ Aside0 (Kd.R (Kd.int .u64) 32 w' w.heap.size (fun k_ => some k_ ≠ ((.slice Ao24 t449.length co24) : Value).ownBlock ∧ some k_ ≠ ((.slice Ao24 t449.length co24) : Value).ownBlock) (.slice Ao29 t456.length co29) t456) ∧ Aside0 (w'.heap[gb452]? = some (.cells #[.int .i64 t446, .int .i64 t447, .int .i64 t448, (.slice Ao24 t449.length co24)] 25 (0, 0))) ∧ Aside0 (w'.heap[gb459]? = some (.cells #[.int .i64 t453, .int .i64 t454, .int .i64 t455, (.slice Ao29 t456.length co29)] 25 (0, 0))) ∧ Aside0 (Below w.heap.size w w'))
       case atStart => exact ⟨(0), (by first | rfl | (simp; done) | (simp [*]; done)), H', ⟨Nat.le_refl _⟩, ⟨kr HO_453003⟩, ⟨kr HO_453003⟩, ⟨by (with_reducible repeat (first | apply Kd.R_alloc | apply Kd.R_drewN | apply Kd.R_drew)); exact Kd.R_mono HO_460003.out (fun _ hk => ⟨hk, hk⟩)⟩, ⟨kb BK452⟩, ⟨kb BK459⟩, ⟨bes⟩⟩
       case round =>
        clear H'
        try clear c1
        try clear c2
        try clear p2
        try clear c3
        try clear c4
        try clear c5
        try clear c7
        try clear c7b0
        try clear c8
        try clear c8b0
        try clear c9
        try clear c9b0
        try clear c10
        try clear c12
        try clear c12b0
        try clear c12b1
        try clear c13
        try clear c13b0
        try clear c13b1
        try clear c20
        try clear c21
        try clear c22
        try clear c27
        try clear c31
        try clear c31b0
        try clear c31b1
        try clear c32
        try clear c32b0
        try clear c32b1
        try clear c33
        try clear c33b0
        try clear c33b1
        try clear c35
        try clear c35b0
        try clear c35b1
        try clear c37
        try clear c45
        try clear c46
        try clear hcz16_0
        try clear hcz16_1
        try clear hcz16_2
        try clear hcz16_3
        try clear hcz23_0
        try clear hcz23_1
        try clear hcz23_2
        try clear hcz23_3
        try clear hcz28_0
        try clear hcz28_1
        try clear hcz28_2
        try clear hcz28_3
        try clear hcz38_0
        try clear hcz38_1
        try clear hcz38_2
        try clear hcz38_3
        try clear hcz40_0
        try clear hcz40_1
        try clear hcz40_2
        try clear hcz40_3
        try clear hcz41_0
        try clear hcz41_1
        try clear hcz41_2
        try clear hcz41_3
        try clear hcz43_0
        try clear hcz43_1
        try clear hcz43_2
        try clear hcz43_3
        try clear hcz47_0
        try clear hcz47_1
        try clear hcz47_2
        try clear hcz47_3
        try clear hfz16_0
        try clear hfz16_1
        try clear hfz16_2
        try clear hfz16_3
        try clear hfz23_0
        try clear hfz23_1
        try clear hfz23_2
        try clear hfz23_3
        try clear hfz28_0
        try clear hfz28_1
        try clear hfz28_2
        try clear hfz28_3
        try clear hfz38_0
        try clear hfz38_1
        try clear hfz38_2
        try clear hfz38_3
        try clear hfz40_0
        try clear hfz40_1
        try clear hfz40_2
        try clear hfz40_3
        try clear hfz41_0
        try clear hfz41_1
        try clear hfz41_2
        try clear hfz41_3
        try clear hfz43_0
        try clear hfz43_1
        try clear hfz43_2
        try clear hfz43_3
        try clear hfz47_0
        try clear hfz47_1
        try clear hfz47_2
        try clear hfz47_3
        try clear p2
        obtain ⟨x85_3, rfl, HA, HK3, HO_83, HO_453003, HO_460003, BK452, BK459, HB⟩ := hrel
        cases gk with
        | zero => exact absurd HA.out (by simp [gimballaw09_MatOnes.l0])
        | succ k3 =>
         have H := HA.out
         clear HA
         simp only [gimballaw09_MatOnes.l0] at H
         by_cases c48 : x85_3 < (t449.length : Int)
         ·
          rw [if_pos c48] at H
          have c48b0 : decide (x85_3 < (t449.length : Int)) = true := decide_eq_true c48
          clear c48
          by_cases c49 : 0 ≤ x85_3
          rotate_left
          ·
           rw [if_neg c49] at H
           exact absurd H (by simp)
          rw [if_pos c49] at H
          have c49b0 : decide (0 ≤ x85_3) = true := decide_eq_true c49
          clear c49
          by_cases c50 : x85_3 < (t449.length : Int)
          rotate_left
          ·
           rw [if_neg c50] at H
           exact absurd H (by simp)
          rw [if_pos c50] at H
          have c50b0 : decide (x85_3 < (t449.length : Int)) = true := decide_eq_true c50
          clear c50
          by_cases c51 : (rd t449 x85_3) = 0
          rotate_left
          ·
           rw [if_neg c51] at H
           have c51b0 : ((rd t449 x85_3) == 0) = false := beq_eq_false_iff_ne.mpr c51
           have c51b1 : ((rd t449 x85_3) != 0) = true := bne_iff_ne.mpr c51
           rw [hLW] at H
           exact absurd H (by simp)
          rw [if_pos c51] at H
          have c51b0 : ((rd t449 x85_3) == 0) = true := beq_iff_eq.mpr c51
          have c51b1 : ((rd t449 x85_3) != 0) = false := bne_eq_false_iff_eq.mpr c51
          clear c51
          have H' := Aside0.mk H
          clear H
          have p463 : 0 ≤ (x85_3 : Int) := of_decide_eq_true (by first | (with_reducible assumption) | assumption)
          have q463 : x85_3 < (t449.length : Int) := of_decide_eq_true (by first | (with_reducible assumption) | assumption)
          obtain ⟨ad463, e463, hx463_0⟩ := Kd.at_int (Kd.R_reads' HO_83.out).2.2 x85_3 p463 q463
          cases e463
          replace p463 := eq_true p463
          replace q463 := eq_true q463
          go_wp2
          go_roundg k3
          case measure => have := HJ4.out; have := HJ19.out; have := HK3.out; omega
          case rel => exact ⟨(wrap64 (x85_3 + 1)), (by first | rfl | (simp; done) | (simp [*]; done)), H', ⟨by have := HJ4.out; have := HJ19.out; have := HK3.out; omega⟩, ⟨kr HO_83⟩, ⟨kr HO_453003⟩, ⟨kr HO_460003⟩, ⟨kb BK452⟩, ⟨kb BK459⟩, ⟨bes⟩⟩
         ·
          rw [if_neg c48] at H
          have c48b0 : decide (x85_3 < (t449.length : Int)) = false := decide_eq_false c48
          clear c48
          have H' := Aside0.mk H
          clear H
          go_wp2
          go_loopg [10] k3 (fun kq v10 w' => ∃ (x10_4 : Int), v10 = .int .i64 x10_4 ∧ Aside0 (gimballaw09_MatOnes.l1 kq (Go.bits .and .i64 a0 31) x10_4 t446 t447 t448 t449 t453 t454 t455 t456 = some r) ∧ Aside0 (kq ≤ k3) ∧ Aside0 (Kd.R (Kd.int .u64) 32 w' w.heap.size (fun k_ => some k_ ≠ ((.slice Ao29 t456.length co29) : Value).ownBlock) (.slice Ao24 t449.length co24) t449) ∧ Aside0 (Kd.R (Kd.int .u64) 32 w' w.heap.size (fun k_ => some k_ ≠ ((.slice Ao24 t449.length co24) : Value).ownBlock) (.slice Ao29 t456.length co29) t456) ∧ Aside0 (w'.heap[gb452]? = some (.cells #[.int .i64 t446, .int .i64 t447, .int .i64 t448, (.slice Ao24 t449.length co24)] 25 (0, 0))) ∧ Aside0 (w'.heap[gb459]? = some (.cells #[.int .i64 t453, .int .i64 t454, .int .i64 t455, (.slice Ao29 t456.length co29)] 25 (0, 0))) ∧ Aside0 (Below w.heap.size w w'))
          case atStart => exact ⟨(0), (by first | rfl | (simp; done) | (simp [*]; done)), H', ⟨Nat.le_refl _⟩, ⟨kr HO_453003⟩, ⟨by (with_reducible repeat (first | apply Kd.R_alloc | apply Kd.R_drewN | apply Kd.R_drew)); exact Kd.R_mono HO_460003.out (fun _ hk => hk.2)⟩, ⟨kb BK452⟩, ⟨kb BK459⟩, ⟨bes⟩⟩
          case round =>
           clear H'
           try clear c1
           try clear c2
           try clear p2
           try clear c3
           try clear c4
           try clear p4
           try clear q4
           try clear hx4
           try clear c5
           try clear p6
           try clear c7
           try clear c7b0
           try clear c8
           try clear c8b0
           try clear c9
           try clear c9b0
           try clear c10
           try clear c12
           try clear c12b0
           try clear c12b1
           try clear c13
           try clear c13b0
           try clear c13b1
           try clear c20
           try clear c21
           try clear c22
           try clear c27
           try clear c31
           try clear c31b0
           try clear c31b1
           try clear c32
           try clear c32b0
           try clear c32b1
           try clear c33
           try clear c33b0
           try clear c33b1
           try clear c35
           try clear c35b0
           try clear c35b1
           try clear c37
           try clear c45
           try clear c46
           try clear p46
           try clear q46
           try clear hx46
           try clear c48
           try clear c48b0
           try clear c49
           try clear c49b0
           try clear c50
           try clear c50b0
           try clear c51
           try clear c51b0
           try clear c51b1
           try clear hcz16_0
           try clear hcz16_1
           try clear hcz16_2
           try clear hcz16_3
           try clear hcz23_0
           try clear hcz23_1
           try clear hcz23_2
           try clear hcz23_3
           try clear hcz28_0
           try clear hcz28_1
           try clear hcz28_2
           try clear hcz28_3
           try clear hcz38_0
           try clear hcz38_1
           try clear hcz38_2
           try clear hcz38_3
           try clear hcz40_0
           try clear hcz40_1
           try clear hcz40_2
           try clear hcz40_3
           try clear hcz41_0
           try clear hcz41_1
           try clear hcz41_2
           try clear hcz41_3
           try clear hcz43_0
           try clear hcz43_1
           try clear hcz43_2
           try clear hcz43_3
           try clear hcz47_0
           try clear hcz47_1
           try clear hcz47_2
           try clear hcz47_3
           try clear hfz16_0
           try clear hfz16_1
           try clear hfz16_2
           try clear hfz16_3
           try clear hfz23_0
           try clear hfz23_1
           try clear hfz23_2
           try clear hfz23_3
           try clear hfz28_0
           try clear hfz28_1
           try clear hfz28_2
           try clear hfz28_3
           try clear hfz38_0
           try clear hfz38_1
           try clear hfz38_2
           try clear hfz38_3
           try clear hfz40_0
           try clear hfz40_1
           try clear hfz40_2
           try clear hfz40_3
           try clear hfz41_0
           try clear hfz41_1
           try clear hfz41_2
           try clear hfz41_3
           try clear hfz43_0
           try clear hfz43_1
           try clear hfz43_2
           try clear hfz43_3
           try clear hfz47_0
           try clear hfz47_1
           try clear hfz47_2
           try clear hfz47_3
           try clear hx463_0
           try clear p2
           try clear p463
           try clear q463
           obtain ⟨x10_4, rfl, HA, HK4, HO_453003, HO_460003, BK452, BK459, HB⟩ := hrel
           cases gk with
           | zero => exact absurd HA.out (by simp [gimballaw09_MatOnes.l1])
           | succ k4 =>
            have H := HA.out
            clear HA
            simp only [gimballaw09_MatOnes.l1] at H
            by_cases c52 : x10_4 < (Go.bits .and .i64 a0 31)
            ·
             rw [if_pos c52] at H
             have c52b0 : decide (x10_4 < (Go.bits .and .i64 a0 31)) = true := decide_eq_true c52
             clear c52
             have H' := Aside0.mk H
             clear H
             go_wp2
             go_loopg [11] k4 (fun kq v11 w' => ∃ (x11_5 : Int), v11 = .int .i64 x11_5 ∧ Aside0 (gimballaw09_MatOnes.l2 kq (Go.bits .and .i64 a0 31) x10_4 x11_5 t446 t447 t448 t449 t453 t454 t455 t456 = some r) ∧ Aside0 (kq ≤ k4) ∧ Aside0 (Kd.R (Kd.int .u64) 32 w' w.heap.size (fun k_ => some k_ ≠ ((.slice Ao29 t456.length co29) : Value).ownBlock) (.slice Ao24 t449.length co24) t449) ∧ Aside0 (Kd.R (Kd.int .u64) 32 w' w.heap.size (fun k_ => some k_ ≠ ((.slice Ao24 t449.length co24) : Value).ownBlock) (.slice Ao29 t456.length co29) t456) ∧ Aside0 (w'.heap[gb452]? = some (.cells #[.int .i64 t446, .int .i64 t447, .int .i64 t448, (.slice Ao24 t449.length co24)] 25 (0, 0))) ∧ Aside0 (w'.heap[gb459]? = some (.cells #[.int .i64 t453, .int .i64 t454, .int .i64 t455, (.slice Ao29 t456.length co29)] 25 (0, 0))) ∧ Aside0 (Below w.heap.size w w'))
             case atStart => exact ⟨(0), (by first | rfl | (simp; done) | (simp [*]; done)), H', ⟨Nat.le_refl _⟩, ⟨kr HO_453003⟩, ⟨kr HO_460003⟩, ⟨kb BK452⟩, ⟨kb BK459⟩, ⟨bes⟩⟩
             case round =>
              clear H'
              try clear c1
              try clear c2
              try clear p2
              try clear c3
              try clear c4
              try clear p4
              try clear q4
              try clear hx4
              try clear c5
              try clear p6
              try clear c7
              try clear c7b0
              try clear c8
              try clear c8b0
              try clear c9
              try clear c9b0
              try clear c10
              try clear c12
              try clear c12b0
              try clear c12b1
              try clear c13
              try clear c13b0
              try clear c13b1
              try clear c20
              try clear c21
              try clear c22
              try clear c27
              try clear c31
              try clear c31b0
              try clear c31b1
              try clear c32
              try clear c32b0
              try clear c32b1
              try clear c33
              try clear c33b0
              try clear c33b1
              try clear c35
              try clear c35b0
              try clear c35b1
              try clear c37
              try clear c45
              try clear c46
              try clear p46
              try clear q46
              try clear hx46
              try clear c48
              try clear c48b0
              try clear c49
              try clear c49b0
              try clear c50
              try clear c50b0
              try clear c51
              try clear c51b0
              try clear c51b1
              try clear c52
              try clear c52b0
              try clear hcz16_0
              try clear hcz16_1
              try clear hcz16_2
              try clear hcz16_3
              try clear hcz23_0
              try clear hcz23_1
              try clear hcz23_2
              try clear hcz23_3
              try clear hcz28_0
              try clear hcz28_1
              try clear hcz28_2
              try clear hcz28_3
              try clear hcz38_0
              try clear hcz38_1
              try clear hcz38_2
              try clear hcz38_3
              try clear hcz40_0
              try clear hcz40_1
              try clear hcz40_2
              try clear hcz40_3
              try clear hcz41_0
              try clear hcz41_1
              try clear hcz41_2
              try clear hcz41_3
              try clear hcz43_0
              try clear hcz43_1
              try clear hcz43_2
              try clear hcz43_3
              try clear hcz47_0
              try clear hcz47_1
              try clear hcz47_2
              try clear hcz47_3
              try clear hfz16_0
              try clear hfz16_1
              try clear hfz16_2
              try clear hfz16_3
              try clear hfz23_0
              try clear hfz23_1
              try clear hfz23_2
              try clear hfz23_3
              try clear hfz28_0
              try clear hfz28_1
              try clear hfz28_2
              try clear hfz28_3
              try clear hfz38_0
              try clear hfz38_1
              try clear hfz38_2
              try clear hfz38_3
              try clear hfz40_0
              try clear hfz40_1
              try clear hfz40_2
              try clear hfz40_3
              try clear hfz41_0
              try clear hfz41_1
              try clear hfz41_2
              try clear hfz41_3
              try clear hfz43_0
              try clear hfz43_1
              try clear hfz43_2
              try clear hfz43_3
              try clear hfz47_0
              try clear hfz47_1
              try clear hfz47_2
              try clear hfz47_3
              try clear hx463_0
              try clear p2
              try clear p4
              try clear p46
              try clear p463
              try clear p6
              try clear q4
              try clear q46
              try clear q463
              obtain ⟨x11_5, rfl, HA, HK5, HO_453003, HO_460003, BK452, BK459, HB⟩ := hrel
              cases gk with
              | zero => exact absurd HA.out (by simp [gimballaw09_MatOnes.l2])
              | succ k5 =>
               have H := HA.out
               clear HA
               simp only [gimballaw09_MatOnes.l2] at H
               by_cases c53 : x11_5 < (Go.bits .and .i64 a0 31)
               rotate_left
               ·
                rw [if_neg c53] at H
                have c53b0 : decide (x11_5 < (Go.bits .and .i64 a0 31)) = false := decide_eq_false c53
                clear c53
                have H' := Aside0.mk H
                clear H
                go_wp2
                go_roundg k5
                case measure => have := HJ4.out; have := HJ19.out; have := HK3.out; have := HK4.out; have := HK5.out; omega
                case rel => exact ⟨(wrap64 (x10_4 + 1)), (by first | rfl | (simp; done) | (simp [*]; done)), H', ⟨by have := HJ4.out; have := HJ19.out; have := HK3.out; have := HK4.out; have := HK5.out; omega⟩, ⟨kr HO_453003⟩, ⟨kr HO_460003⟩, ⟨kb BK452⟩, ⟨kb BK459⟩, ⟨bes⟩⟩
               rw [if_pos c53] at H
               have c53b0 : decide (x11_5 < (Go.bits .and .i64 a0 31)) = true := decide_eq_true c53
               clear c53
               by_cases c54 : x10_4 = x11_5
               ·
                rw [if_pos c54] at H
                have c54b0 : (x10_4 == x11_5) = true := beq_iff_eq.mpr c54
                have c54b1 : (x10_4 != x11_5) = false := bne_eq_false_iff_eq.mpr c54
                clear c54
                obtain ⟨t464, A550, H⟩ := Option.bind_eq_some_iff.mp H
                (try dsimp -simprocs only at H)
                have A55 := Aside0.mk A550
                clear A550
                by_cases c56 : t464 = 4607182418800017408
                rotate_left
                ·
                 rw [if_neg c56] at H
                 have c56b0 : (t464 == 4607182418800017408) = false := beq_eq_false_iff_ne.mpr c56
                 have c56b1 : (t464 != 4607182418800017408) = true := bne_iff_ne.mpr c56
                 rw [hLW] at H
                 exact absurd H (by simp)
                rw [if_pos c56] at H
                have c56b0 : (t464 == 4607182418800017408) = true := beq_iff_eq.mpr c56
                have c56b1 : (t464 != 4607182418800017408) = false := bne_eq_false_iff_eq.mpr c56
                clear c56
                have H' := Aside0.mk H
                clear H
                have hnb57 := NB459_452.out
                have hnc57 := NB452_459.out
                have hcz58_0 := bc BK459 0 rfl
                have hcz58_1 := bc BK459 1 rfl
                have hcz58_2 := bc BK459 2 rfl
                have hcz58_3 := bc BK459 3 rfl
                have hfz58_0 := blk_frozen BK459.out 0
                have hfz58_1 := blk_frozen BK459.out 1
                have hfz58_2 := blk_frozen BK459.out 2
                have hfz58_3 := blk_frozen BK459.out 3
                go_wp2_with (first | ((with_reducible refine gate_callee (f := 8) rfl ?_); refine goesL_ (some 108) rfl rfl Tryd.func8 (by kernel_rfl) rfl #[.agg #[.int .i64 t453, .int .i64 t454, .int .i64 t455, .slice Ao29 t456.length co29], .int .i64 x10_4, .int .i64 x11_5] rfl ga ?_; (with_reducible refine (mat_Matrix_At.calls t453 t454 t455 _ _ t456 x10_4 x11_5 t464 _ ?side1 ?side2 A55.out).mono ?_); (case side1 => exact ks HO_460003); (case side2 => exact (Kd.R_reads' HO_460003.out).2.1); rintro e w59 ⟨rfl, hb⟩; refine ⟨_, rfl, ?_⟩; refine ax5 (Kd.R_below (kr HO_453003) hb) (Kd.R_below (kr HO_460003) hb) (bb BK452 hb) (bb BK459 hb) (below_step bes hb) ?_; clear HO_453003; clear HO_460003; clear BK452; clear BK459; clear HB; intro HO_453003 HO_460003 BK452 BK459 HB; (try clear hb)))
                go_roundg k5
                case measure => have := HJ4.out; have := HJ19.out; have := HK3.out; have := HK4.out; have := HK5.out; omega
                case rel => exact ⟨(wrap64 (x11_5 + 1)), (by first | rfl | (simp; done) | (simp [*]; done)), H', ⟨by have := HJ4.out; have := HJ19.out; have := HK3.out; have := HK4.out; have := HK5.out; omega⟩, ⟨kr HO_453003⟩, ⟨kr HO_460003⟩, ⟨kb BK452⟩, ⟨kb BK459⟩, ⟨bes⟩⟩
               ·
                rw [if_neg c54] at H
                have c54b0 : (x10_4 == x11_5) = false := beq_eq_false_iff_ne.mpr c54
                have c54b1 : (x10_4 != x11_5) = true := bne_iff_ne.mpr c54
                obtain ⟨t465, A600, H⟩ := Option.bind_eq_some_iff.mp H
                (try dsimp -simprocs only at H)
                have A60 := Aside0.mk A600
                clear A600
                by_cases c61 : t465 = 0
                rotate_left
                ·
                 rw [if_neg c61] at H
                 have c61b0 : (t465 == 0) = false := beq_eq_false_iff_ne.mpr c61
                 have c61b1 : (t465 != 0) = true := bne_iff_ne.mpr c61
                 rw [hLW] at H
                 exact absurd H (by simp)
                rw [if_pos c61] at H
                have c61b0 : (t465 == 0) = true := beq_iff_eq.mpr c61
                have c61b1 : (t465 != 0) = false := bne_eq_false_iff_eq.mpr c61
                clear c61
                have H' := Aside0.mk H
                clear H
                have hnb62 := NB459_452.out
                have hnc62 := NB452_459.out
                have hcz63_0 := bc BK459 0 rfl
                have hcz63_1 := bc BK459 1 rfl
                have hcz63_2 := bc BK459 2 rfl
                have hcz63_3 := bc BK459 3 rfl
                have hfz63_0 := blk_frozen BK459.out 0
                have hfz63_1 := blk_frozen BK459.out 1
                have hfz63_2 := blk_frozen BK459.out 2
                have hfz63_3 := blk_frozen BK459.out 3
                go_wp2_with (first | ((with_reducible refine gate_callee (f := 8) rfl ?_); refine goesL_ (some 108) rfl rfl Tryd.func8 (by kernel_rfl) rfl #[.agg #[.int .i64 t453, .int .i64 t454, .int .i64 t455, .slice Ao29 t456.length co29], .int .i64 x10_4, .int .i64 x11_5] rfl ga ?_; (with_reducible refine (mat_Matrix_At.calls t453 t454 t455 _ _ t456 x10_4 x11_5 t465 _ ?side1 ?side2 A60.out).mono ?_); (case side1 => exact ks HO_460003); (case side2 => exact (Kd.R_reads' HO_460003.out).2.1); rintro e w64 ⟨rfl, hb⟩; refine ⟨_, rfl, ?_⟩; refine ax5 (Kd.R_below (kr HO_453003) hb) (Kd.R_below (kr HO_460003) hb) (bb BK452 hb) (bb BK459 hb) (below_step bes hb) ?_; clear HO_453003; clear HO_460003; clear BK452; clear BK459; clear HB; intro HO_453003 HO_460003 BK452 BK459 HB; (try clear hb)))
                go_roundg k5
                case measure => have := HJ4.out; have := HJ19.out; have := HK3.out; have := HK4.out; have := HK5.out; omega
                case rel => exact ⟨(wrap64 (x11_5 + 1)), (by first | rfl | (simp; done) | (simp [*]; done)), H', ⟨by have := HJ4.out; have := HJ19.out; have := HK3.out; have := HK4.out; have := HK5.out; omega⟩, ⟨kr HO_453003⟩, ⟨kr HO_460003⟩, ⟨kb BK452⟩, ⟨kb BK459⟩, ⟨bes⟩⟩
            ·
             rw [if_neg c52] at H
             have c52b0 : decide (x10_4 < (Go.bits .and .i64 a0 31)) = false := decide_eq_false c52
             clear c52
             obtain ⟨⟨t466, t467, t470, t471⟩, A650, H⟩ := Option.bind_eq_some_iff.mp H
             (try dsimp -simprocs only at H)
             have A65 := Aside0.mk A650
             clear A650
             obtain ⟨⟨t473, t474, t477⟩, A660, H⟩ := Option.bind_eq_some_iff.mp H
             (try dsimp -simprocs only at H)
             have A66 := Aside0.mk A660
             clear A660
             obtain ⟨⟨t478, t479, t482⟩, A670, H⟩ := Option.bind_eq_some_iff.mp H
             (try dsimp -simprocs only at H)
             have A67 := Aside0.mk A670
             clear A670
             obtain ⟨t483, A680, H⟩ := Option.bind_eq_some_iff.mp H
             (try dsimp -simprocs only at H)
             have A68 := Aside0.mk A680
             clear A680
             by_cases c69 : t483 = true
             rotate_left
             ·
              replace c69 := Bool.eq_false_iff.mpr c69
              subst c69
              rw [if_neg (show ¬ (false = true) by decide)] at H
              rw [hLW] at H
              exact absurd H (by simp)
             subst c69
             rw [if_pos rfl] at H
             obtain ⟨⟨t484, t485, t488⟩, A700, H⟩ := Option.bind_eq_some_iff.mp H
             (try dsimp -simprocs only at H)
             have A70 := Aside0.mk A700
             clear A700
             obtain ⟨t489, A710, H⟩ := Option.bind_eq_some_iff.mp H
             (try dsimp -simprocs only at H)
             have A71 := Aside0.mk A710
             clear A710
             obtain rfl := Option.some.inj H
             try go_wp2_with (first | ((with_reducible refine gate_callee (f := 7) rfl ?_); refine goesL_ (some 112) rfl rfl Tryd.func7 (by kernel_rfl) rfl #[.int .u64 0] rfl ga ?_; (with_reducible refine (dyad_Of.calls k4 0 t466 t467 t470 t471 _ ?side1 A65.out).mono ?_); (case side1 => first | exact hT | exact TabW.drewN hT _ | exact TabW.drew hT | exact TabW.below hT bes); rintro e w72 ⟨v468, rfl, ho0, hb⟩; refine ⟨_, rfl, ?_⟩; refine ax6 (Kd.R_below (kr HO_453003) hb) (Kd.R_below (kr HO_460003) hb) (Kd.V_lower (Kd.V_mono (ok' := fun k_ => some k_ ≠ (.slice Ao24 t449.length co24 : Value).ownBlock ∧ some k_ ≠ (.slice Ao29 t456.length co29 : Value).ownBlock ∧ k_ ≠ gb452 ∧ k_ ≠ gb459) ho0 (fun k_ hk_ => ⟨(Kd.fresh' (Kd.R_lt (kr HO_453003)) k_ hk_), (Kd.fresh' (Kd.R_lt (kr HO_460003)) k_ hk_), (fb BK452 k_ hk_), (fb BK459 k_ hk_)⟩)) (below_size bes)) (bb BK452 hb) (bb BK459 hb) (below_step bes hb) ?_; clear HO_453003; clear HO_460003; clear BK452; clear BK459; clear HB; intro HO_453003 HO_460003 HO469 BK452 BK459 HB; (try clear hb); (try clear ho0)) | ((with_reducible refine gate_dst (N := 13) rfl ?_); refine gbox (N := 13) (cs := #[.bool false, .slice none 0 0, .int .i64 0]) (t := 29) ?_; intro gb472 hg w73 hbox hb; refine ax13 (Kd.R_below (kr HO_453003) hb) (Kd.R_below (kr HO_460003) hb) (Kd.V_below (Kd.V_elderB (kv HO469) gb472 (Nat.le_of_eq hg.symm)) hb) (bb BK452 hb) (bb BK459 hb) (below_step bes hb) hbox ((ge hg : w.heap.size ≤ gb472)) ((ge hg : w.heap.size ≤ gb472)) (nl hg BK452) (ng hg BK452) (nl hg BK459) (ng hg BK459) ?_; clear HO_453003; clear HO_460003; clear HO469; clear BK452; clear BK459; clear HB; intro HO_453003 HO_460003 HO469 BK452 BK459 HB BK472 GW472 GE472 NB452_472 NB472_452 NB459_472 NB472_459; clear hb hbox hg; have hnb74 := NB472_452.out; have hnc74 := NB452_472.out; have hnb75 := NB472_459.out; have hnc75 := NB459_472.out; have hcz76_0 := bc BK472 0 rfl; have hcz76_1 := bc BK472 1 rfl; have hcz76_2 := bc BK472 2 rfl; have hfz76_0 := blk_frozen BK472.out 0; have hfz76_1 := blk_frozen BK472.out 1; have hfz76_2 := blk_frozen BK472.out 2; obtain ⟨Ao77, co77, eo77⟩ := Kd.V_slice HO469.out; subst eo77))
             have n0_ : Aside0 (Kd.R (Kd.int .u64) 32 (((w73.setCell ⟨gb472, 0, none⟩ (.bool t466)).setCell ⟨gb472, 1, none⟩ (.slice Ao77 t467.length co77)).setCell ⟨gb472, 2, none⟩ (.int .i64 t470)) w.heap.size (fun k_ => some k_ ≠ (.slice Ao29 t456.length co29 : Value).ownBlock) (.slice Ao24 t449.length co24) t449) := ⟨by (with_reducible repeat (first | apply Kd.R_alloc | apply Kd.R_drewN | apply Kd.R_drew)); exact Kd.R_mono (Kd.R_far (p := ⟨gb472, 2, none⟩) (Kd.R_far (p := ⟨gb472, 1, none⟩) (Kd.R_far (p := ⟨gb472, 0, none⟩) (Kd.R_types HO_453003.out BK472.out (by decide)) (fun _ hk => hk.2) (.bool t466)) (fun _ hk => hk.2) (.slice Ao77 t467.length co77)) (fun _ hk => hk.2) (.int .i64 t470)) (fun _ hk => hk.1)⟩
             have n1_ : Aside0 (Kd.R (Kd.int .u64) 32 (((w73.setCell ⟨gb472, 0, none⟩ (.bool t466)).setCell ⟨gb472, 1, none⟩ (.slice Ao77 t467.length co77)).setCell ⟨gb472, 2, none⟩ (.int .i64 t470)) w.heap.size (fun k_ => some k_ ≠ (.slice Ao24 t449.length co24 : Value).ownBlock) (.slice Ao29 t456.length co29) t456) := ⟨by (with_reducible repeat (first | apply Kd.R_alloc | apply Kd.R_drewN | apply Kd.R_drew)); exact Kd.R_mono (Kd.R_far (p := ⟨gb472, 2, none⟩) (Kd.R_far (p := ⟨gb472, 1, none⟩) (Kd.R_far (p := ⟨gb472, 0, none⟩) (Kd.R_types HO_460003.out BK472.out (by decide)) (fun _ hk => hk.2) (.bool t466)) (fun _ hk => hk.2) (.slice Ao77 t467.length co77)) (fun _ hk => hk.2) (.int .i64 t470)) (fun _ hk => hk.1)⟩
             have n2_ : Aside0 (Kd.V (Kd.int .u32) 56 (((w73.setCell ⟨gb472, 0, none⟩ (.bool t466)).setCell ⟨gb472, 1, none⟩ (.slice Ao77 t467.length co77)).setCell ⟨gb472, 2, none⟩ (.int .i64 t470)) w.heap.size (fun k_ => some k_ ≠ (.slice Ao24 t449.length co24 : Value).ownBlock ∧ some k_ ≠ (.slice Ao29 t456.length co29 : Value).ownBlock ∧ k_ ≠ gb452 ∧ k_ ≠ gb459 ∧ k_ ≠ gb472) (.slice Ao77 t467.length co77) t467) := ⟨by (with_reducible repeat (first | apply Kd.V_alloc | apply Kd.V_drewN | apply Kd.V_drew)); exact Kd.V_mono (Kd.V_far (p := ⟨gb472, 2, none⟩) (Kd.V_far (p := ⟨gb472, 1, none⟩) (Kd.V_far (p := ⟨gb472, 0, none⟩) (Kd.V_mono HO469.out (fun k_ hk => (⟨hk, hk.2⟩ : _ ∧ k_ ≠ gb472))) (fun _ hk => hk.2) (.bool t466)) (fun _ hk => hk.2) (.slice Ao77 t467.length co77)) (fun _ hk => hk.2) (.int .i64 t470)) (fun _ hk => ⟨hk.1.1.1, ⟨hk.1.1.2.1, ⟨hk.1.1.2.2.1, ⟨hk.1.1.2.2.2, hk.1.2⟩⟩⟩⟩)⟩
             have n3_ : Aside0 ((((w73.setCell ⟨gb472, 0, none⟩ (.bool t466)).setCell ⟨gb472, 1, none⟩ (.slice Ao77 t467.length co77)).setCell ⟨gb472, 2, none⟩ (.int .i64 t470)).heap[gb452]? = some (.cells #[.int .i64 t446, .int .i64 t447, .int .i64 t448, .slice Ao24 t449.length co24] 25 (0, 0))) := ⟨by (with_reducible repeat (first | refine blk_drewN ?_ _ | refine blk_drew ?_ | refine blk_alloc ?_ _)); refine blk_far ?_ NB452_472.out _; (with_reducible repeat (first | refine blk_drewN ?_ _ | refine blk_drew ?_ | refine blk_alloc ?_ _)); refine blk_far ?_ NB452_472.out _; (with_reducible repeat (first | refine blk_drewN ?_ _ | refine blk_drew ?_ | refine blk_alloc ?_ _)); refine blk_far ?_ NB452_472.out _; (with_reducible repeat (first | refine blk_drewN ?_ _ | refine blk_drew ?_ | refine blk_alloc ?_ _)); exact BK452.out⟩
             have n4_ : Aside0 ((((w73.setCell ⟨gb472, 0, none⟩ (.bool t466)).setCell ⟨gb472, 1, none⟩ (.slice Ao77 t467.length co77)).setCell ⟨gb472, 2, none⟩ (.int .i64 t470)).heap[gb459]? = some (.cells #[.int .i64 t453, .int .i64 t454, .int .i64 t455, .slice Ao29 t456.length co29] 25 (0, 0))) := ⟨by (with_reducible repeat (first | refine blk_drewN ?_ _ | refine blk_drew ?_ | refine blk_alloc ?_ _)); refine blk_far ?_ NB459_472.out _; (with_reducible repeat (first | refine blk_drewN ?_ _ | refine blk_drew ?_ | refine blk_alloc ?_ _)); refine blk_far ?_ NB459_472.out _; (with_reducible repeat (first | refine blk_drewN ?_ _ | refine blk_drew ?_ | refine blk_alloc ?_ _)); refine blk_far ?_ NB459_472.out _; (with_reducible repeat (first | refine blk_drewN ?_ _ | refine blk_drew ?_ | refine blk_alloc ?_ _)); exact BK459.out⟩
             have n5_ : Aside0 ((((w73.setCell ⟨gb472, 0, none⟩ (.bool t466)).setCell ⟨gb472, 1, none⟩ (.slice Ao77 t467.length co77)).setCell ⟨gb472, 2, none⟩ (.int .i64 t470)).heap[gb472]? = some (.cells #[.bool t466, .slice Ao77 t467.length co77, .int .i64 t470] 29 (0, 0))) := ⟨by (with_reducible repeat (first | refine blk_drewN ?_ _ | refine blk_drew ?_ | refine blk_alloc ?_ _)); refine blk_put (cs := #[.bool t466, .slice Ao77 t467.length co77, .int .i64 0]) ?_ 2 _ rfl; (with_reducible repeat (first | refine blk_drewN ?_ _ | refine blk_drew ?_ | refine blk_alloc ?_ _)); refine blk_put (cs := #[.bool t466, .slice none 0 0, .int .i64 0]) ?_ 1 _ rfl; (with_reducible repeat (first | refine blk_drewN ?_ _ | refine blk_drew ?_ | refine blk_alloc ?_ _)); refine blk_put (cs := #[.bool false, .slice none 0 0, .int .i64 0]) ?_ 0 _ rfl; (with_reducible repeat (first | refine blk_drewN ?_ _ | refine blk_drew ?_ | refine blk_alloc ?_ _)); exact BK472.out⟩
             have n6_ : Aside0 (Below w.heap.size w (((w73.setCell ⟨gb472, 0, none⟩ (.bool t466)).setCell ⟨gb472, 1, none⟩ (.slice Ao77 t467.length co77)).setCell ⟨gb472, 2, none⟩ (.int .i64 t470))) := ⟨bes⟩
             (try clear HO_453003)
             (try clear HO_460003)
             (try clear HO469)
             (try clear BK452)
             (try clear BK459)
             (try clear BK472)
             (try clear HB)
             generalize (((w73.setCell ⟨gb472, 0, none⟩ (.bool t466)).setCell ⟨gb472, 1, none⟩ (.slice Ao77 t467.length co77)).setCell ⟨gb472, 2, none⟩ (.int .i64 t470)) = w78 at n0_ n1_ n2_ n3_ n4_ n5_ n6_ ⊢
             have HO_453003 := n0_
             have HO_460003 := n1_
             have HO469 := n2_
             have BK452 := n3_
             have BK459 := n4_
             have BK472 := n5_
             have HB := n6_
             clear n0_ n1_ n2_ n3_ n4_ n5_ n6_
             refine ax7 (Kd.R_drew HO_453003.out) (Kd.R_drew HO_460003.out) (Kd.V_drew HO469.out) (blk_drew BK452.out) (blk_drew BK459.out) (blk_drew BK472.out) (below_drew1 HB.out) ?_
             clear HO_453003 HO_460003 HO469 BK452 BK459 BK472 HB
             intro HO_453003 HO_460003 HO469 BK452 BK459 BK472 HB
             refine start_ (n := 12) (S := fun w' => w'.cell? ⟨gb459, 0, none⟩ = some (.int .i64 t453) ∧ w'.cell? ⟨gb459, 1, none⟩ = some (.int .i64 t454) ∧ w'.cell? ⟨gb459, 2, none⟩ = some (.int .i64 t455) ∧ w'.cell? ⟨gb459, 3, none⟩ = some (.slice Ao29 t456.length co29) ∧ w'.cell? ⟨gb452, 0, none⟩ = some (.int .i64 t446) ∧ w'.cell? ⟨gb452, 1, none⟩ = some (.int .i64 t447) ∧ w'.cell? ⟨gb452, 2, none⟩ = some (.int .i64 t448) ∧ w'.cell? ⟨gb452, 3, none⟩ = some (.slice Ao24 t449.length co24) ∧ w'.cell? ⟨gb472, 0, none⟩ = some (.bool t466) ∧ w'.cell? ⟨gb472, 1, none⟩ = some (.slice Ao77 t467.length co77) ∧ w'.cell? ⟨gb472, 2, none⟩ = some (.int .i64 t470)) (ds := []) #[false, false, false, false, false, false, false, false, false, false, false, false] (by kernel_rfl) rfl rfl ⟨(blk_cell BK459.out 0).trans rfl, (blk_cell BK459.out 1).trans rfl, (blk_cell BK459.out 2).trans rfl, (blk_cell BK459.out 3).trans rfl, (blk_cell BK452.out 0).trans rfl, (blk_cell BK452.out 1).trans rfl, (blk_cell BK452.out 2).trans rfl, (blk_cell BK452.out 3).trans rfl, (blk_cell BK472.out 0).trans rfl, (blk_cell BK472.out 1).trans rfl, (blk_cell BK472.out 2).trans rfl⟩ (fun hHeld => ?_); refine with_tabW gimballaw09_MatOnes.tab30 gimballaw09_MatOnes.bits30 (fun HT_ HW_ => ?_)
             generalize w78.drew = w79 at HO_453003 HO_460003 HO469 BK452 BK459 BK472 HB hHeld ⊢
             refine pure_ (i := 2) (N := some 117) (v := ?_) (a' := ?_) #[false, false, true, false, false, false, false, false, false, false, false, false] rfl rfl (any_of HT_.out (by kernel_rfl)) (fun _ _ _ h => h) (Or.inl ⟨by rfl, ?_⟩) ?_ ?_
             rotate_left
             ·
              intro w'
              go_simp
              with_reducible rfl
             rotate_left
             ·
              simp only [Act.put, sa0, sa1, sa2, i64_w, i32_w]
              rfl
             refine take_ (i := 0) (N := some 115) (v := ?_) (a' := ?_) #[true, false, true, false, false, false, false, false, false, false, false, false] rfl rfl (take_ofW HT_.out HW_.out (by kernel_rfl)) (fun _ _ _ h => h) (Or.inl ⟨by rfl, ?_⟩) hHeld ?_ ?_
             rotate_left
             ·
              rintro w' ⟨s0, s1, s2, s3, s4, s5, s6, s7, s8, s9, s10⟩
              go_simp
              with_reducible rfl
             rotate_left
             ·
              simp only [Act.put, sa0, sa1, sa2, i64_w, i32_w]
              rfl
             refine one_ (i := 1) (N := some 116) #[true, true, true, false, false, false, false, false, false, false, false, false] rfl rfl (one_of HT_.out (by kernel_rfl)) (by decide) (fun K hK => ?_)
             refine goes_ Tryd.func12 (by kernel_rfl) rfl #[.agg #[.int .i64 t453, .int .i64 t454, .int .i64 t455, .slice Ao29 t456.length co29]] (by rfl) rfl rfl ga ?_
             with_reducible refine (mat_Matrix_Square.calls k4 t453 t454 t455 _ _ t456 t473 t474 t477 _ ?side1 ?side2 ?side3 A66.out).mono ?_
             (case side1 => exact ks HO_460003)
             (case side2 => exact (Kd.R_reads' HO_460003.out).2.1)
             (case side3 => first | exact hT | exact TabW.drewN hT _ | exact TabW.drew hT | exact TabW.below hT bes)
             rintro e w80 ⟨v475, rfl, ho0, hb⟩
             refine ⟨_, rfl, ?_⟩
             refine ax8 (Kd.R_below (kr HO_453003) hb) (Kd.R_below (kr HO_460003) hb) (Kd.V_below (kv HO469) hb) (Kd.V_lower (Kd.V_mono (ok' := fun k_ => some k_ ≠ (.slice Ao24 t449.length co24 : Value).ownBlock ∧ some k_ ≠ (.slice Ao29 t456.length co29 : Value).ownBlock ∧ k_ ≠ gb452 ∧ k_ ≠ gb459 ∧ k_ ≠ gb472) ho0 (fun k_ hk_ => ⟨(Kd.fresh' (Kd.R_lt (kr HO_453003)) k_ hk_), (Kd.fresh' (Kd.R_lt (kr HO_460003)) k_ hk_), (fb BK452 k_ hk_), (fb BK459 k_ hk_), (fb BK472 k_ hk_)⟩)) (below_size bes)) (bb BK452 hb) (bb BK459 hb) (bb BK472 hb) (below_step bes hb) ?_
             clear HO_453003 HO_460003 HO469 BK452 BK459 BK472 HB
             intro HO_453003 HO_460003 HO469 HO476 BK452 BK459 BK472 HB
             (try clear hb)
             (try clear hb2)
             (try clear hk)
             (try clear hi)
             (try clear ho0)
             refine hK.out _ _ ⟨(blk_cell BK459.out 0).trans rfl, (blk_cell BK459.out 1).trans rfl, (blk_cell BK459.out 2).trans rfl, (blk_cell BK459.out 3).trans rfl, (blk_cell BK452.out 0).trans rfl, (blk_cell BK452.out 1).trans rfl, (blk_cell BK452.out 2).trans rfl, (blk_cell BK452.out 3).trans rfl, (blk_cell BK472.out 0).trans rfl, (blk_cell BK472.out 1).trans rfl, (blk_cell BK472.out 2).trans rfl⟩ (fun hHeld => ?_)
             clear hK K
             refine norm_ (a' := ?_) ?_ ?_
             rotate_left
             ·
              show Act.put _ (some 116) _ = _
              simp only [Act.put, sa0, sa1, sa2, i64_w, i32_w]
              rfl
             refine one_ (i := 3) (N := some 118) #[true, true, true, true, false, false, false, false, false, false, false, false] rfl rfl (one_of HT_.out (by kernel_rfl)) (by decide) (fun K hK => ?_)
             refine goes_ Tryd.func23 (by kernel_rfl) rfl #[.int .i64 (Go.bits .and .i64 a0 31)] (by rfl) rfl rfl ga ?_
             with_reducible refine (dyad_Int.calls k4 (Go.bits .and .i64 a0 31) t478 t479 t482 _ ?side1 A67.out).mono ?_
             (case side1 => first | exact hT | exact TabW.drewN hT _ | exact TabW.drew hT | exact TabW.below hT bes)
             rintro e w81 ⟨v480, rfl, ho0, hb⟩
             refine ⟨_, rfl, ?_⟩
             refine ax9 (Kd.R_below (kr HO_453003) hb) (Kd.R_below (kr HO_460003) hb) (Kd.V_below (kv HO469) hb) (Kd.V_below (kv HO476) hb) (Kd.V_lower (Kd.V_mono (ok' := fun k_ => some k_ ≠ (.slice Ao24 t449.length co24 : Value).ownBlock ∧ some k_ ≠ (.slice Ao29 t456.length co29 : Value).ownBlock ∧ k_ ≠ gb452 ∧ k_ ≠ gb459 ∧ k_ ≠ gb472) ho0 (fun k_ hk_ => ⟨(Kd.fresh' (Kd.R_lt (kr HO_453003)) k_ hk_), (Kd.fresh' (Kd.R_lt (kr HO_460003)) k_ hk_), (fb BK452 k_ hk_), (fb BK459 k_ hk_), (fb BK472 k_ hk_)⟩)) (below_size bes)) (bb BK452 hb) (bb BK459 hb) (bb BK472 hb) (below_step bes hb) ?_
             clear HO_453003 HO_460003 HO469 HO476 BK452 BK459 BK472 HB
             intro HO_453003 HO_460003 HO469 HO476 HO481 BK452 BK459 BK472 HB
             (try clear hb)
             (try clear hb2)
             (try clear hk)
             (try clear hi)
             (try clear ho0)
             obtain ⟨Ao82, co82, eo82⟩ := Kd.V_slice HO476.out
             (first | subst eo82 | (injection eo82 with f1_ f2_ f3_; have f4_ := f1_.symm; have f5_ := f3_.symm; clear f1_ f2_ f3_; subst f4_; subst f5_))
             obtain ⟨Ao83, co83, eo83⟩ := Kd.V_slice HO481.out
             (first | subst eo83 | (injection eo83 with f1_ f2_ f3_; have f4_ := f1_.symm; have f5_ := f3_.symm; clear f1_ f2_ f3_; subst f4_; subst f5_))
             refine hK.out _ _ ⟨(blk_cell BK459.out 0).trans rfl, (blk_cell BK459.out 1).trans rfl, (blk_cell BK459.out 2).trans rfl, (blk_cell BK459.out 3).trans rfl, (blk_cell BK452.out 0).trans rfl, (blk_cell BK452.out 1).trans rfl, (blk_cell BK452.out 2).trans rfl, (blk_cell BK452.out 3).trans rfl, (blk_cell BK472.out 0).trans rfl, (blk_cell BK472.out 1).trans rfl, (blk_cell BK472.out 2).trans rfl⟩ (fun hHeld => ?_)
             clear hK K
             refine norm_ (a' := ?_) ?_ ?_
             rotate_left
             ·
              show Act.put _ (some 118) _ = _
              simp only [Act.put, sa0, sa1, sa2, i64_w, i32_w]
              rfl
             refine one_ (i := 4) (N := some 119) #[true, true, true, true, true, false, false, false, false, false, false, false] rfl rfl (one_of HT_.out (by kernel_rfl)) (by decide) (fun K hK => ?_)
             refine goes_ Tryd.func13 (by kernel_rfl) rfl #[.agg #[.bool t473, .slice Ao82 t474.length co82, .int .i64 t477], .agg #[.bool t478, .slice Ao83 t479.length co83, .int .i64 t482]] (by rfl) rfl rfl ga ?_
             with_reducible refine (dyad_Num_Same.calls k4 t473 _ _ t474 t477 t478 _ _ t479 t482 true _ ?side1 ?side2 ?side3 ?side4 A68.out).mono ?_
             (case side1 => exact kvs HO476)
             (case side2 => exact (Kd.V_reads' HO476.out).2.1)
             (case side3 => exact kvs HO481)
             (case side4 => exact (Kd.V_reads' HO481.out).2.1)
             rintro e w84 ⟨rfl, hb⟩
             refine ⟨_, rfl, ?_⟩
             refine ax9 (Kd.R_below (kr HO_453003) hb) (Kd.R_below (kr HO_460003) hb) (Kd.V_below (kv HO469) hb) (Kd.V_below (kv HO476) hb) (Kd.V_below (kv HO481) hb) (bb BK452 hb) (bb BK459 hb) (bb BK472 hb) (below_step bes hb) ?_
             clear HO_453003 HO_460003 HO469 HO476 HO481 BK452 BK459 BK472 HB
             intro HO_453003 HO_460003 HO469 HO476 HO481 BK452 BK459 BK472 HB
             (try clear hb)
             (try clear hb2)
             (try clear hk)
             (try clear hi)
             refine hK.out _ _ ⟨(blk_cell BK459.out 0).trans rfl, (blk_cell BK459.out 1).trans rfl, (blk_cell BK459.out 2).trans rfl, (blk_cell BK459.out 3).trans rfl, (blk_cell BK452.out 0).trans rfl, (blk_cell BK452.out 1).trans rfl, (blk_cell BK452.out 2).trans rfl, (blk_cell BK452.out 3).trans rfl, (blk_cell BK472.out 0).trans rfl, (blk_cell BK472.out 1).trans rfl, (blk_cell BK472.out 2).trans rfl⟩ (fun hHeld => ?_)
             clear hK K
             refine norm_ (a' := ?_) ?_ ?_
             rotate_left
             ·
              show Act.put _ (some 119) _ = _
              simp only [Act.put, sa0, sa1, sa2, i64_w, i32_w]
              rfl
             refine pure_ (i := 5) (N := some 120) (v := ?_) (a' := ?_) #[true, true, true, true, true, true, false, false, false, false, false, false] rfl rfl (any_of HT_.out (by kernel_rfl)) (fun _ _ _ h => h) (Or.inl ⟨by rfl, ?_⟩) ?_ ?_
             rotate_left
             ·
              intro w'
              go_simp
              with_reducible rfl
             rotate_left
             ·
              simp only [Act.put, sa0, sa1, sa2, i64_w, i32_w]
              rfl
             refine take_ (i := 6) (N := some 121) (v := ?_) (a' := ?_) #[true, true, true, true, true, true, true, false, false, false, false, false] rfl rfl (take_ofW HT_.out HW_.out (by kernel_rfl)) (fun _ _ _ h => h) (Or.inl ⟨by rfl, ?_⟩) hHeld ?_ ?_
             rotate_left
             ·
              rintro w' ⟨s0, s1, s2, s3, s4, s5, s6, s7, s8, s9, s10⟩
              go_simp
              with_reducible rfl
             rotate_left
             ·
              simp only [Act.put, sa0, sa1, sa2, i64_w, i32_w]
              rfl
             refine take_ (i := 8) (N := some 123) (v := ?_) (a' := ?_) #[true, true, true, true, true, true, true, false, true, false, false, false] rfl rfl (take_ofW HT_.out HW_.out (by kernel_rfl)) (fun _ _ _ h => h) (Or.inl ⟨by rfl, ?_⟩) hHeld ?_ ?_
             rotate_left
             ·
              rintro w' ⟨s0, s1, s2, s3, s4, s5, s6, s7, s8, s9, s10⟩
              go_simp
              with_reducible rfl
             rotate_left
             ·
              simp only [Act.put, sa0, sa1, sa2, i64_w, i32_w]
              rfl
             refine one_ (i := 7) (N := some 122) #[true, true, true, true, true, true, true, true, true, false, false, false] rfl rfl (one_of HT_.out (by kernel_rfl)) (by decide) (fun K hK => ?_)
             refine goes_ Tryd.func12 (by kernel_rfl) rfl #[.agg #[.int .i64 t446, .int .i64 t447, .int .i64 t448, .slice Ao24 t449.length co24]] (by rfl) rfl rfl ga ?_
             with_reducible refine (mat_Matrix_Square.calls k4 t446 t447 t448 _ _ t449 t484 t485 t488 _ ?side1 ?side2 ?side3 A70.out).mono ?_
             (case side1 => exact ks HO_453003)
             (case side2 => exact (Kd.R_reads' HO_453003.out).2.1)
             (case side3 => first | exact hT | exact TabW.drewN hT _ | exact TabW.drew hT | exact TabW.below hT bes)
             rintro e w85 ⟨v486, rfl, ho0, hb⟩
             refine ⟨_, rfl, ?_⟩
             refine ax10 (Kd.R_below (kr HO_453003) hb) (Kd.R_below (kr HO_460003) hb) (Kd.V_below (kv HO469) hb) (Kd.V_below (kv HO476) hb) (Kd.V_below (kv HO481) hb) (Kd.V_lower (Kd.V_mono (ok' := fun k_ => some k_ ≠ (.slice Ao24 t449.length co24 : Value).ownBlock ∧ some k_ ≠ (.slice Ao29 t456.length co29 : Value).ownBlock ∧ k_ ≠ gb452 ∧ k_ ≠ gb459 ∧ k_ ≠ gb472) ho0 (fun k_ hk_ => ⟨(Kd.fresh' (Kd.R_lt (kr HO_453003)) k_ hk_), (Kd.fresh' (Kd.R_lt (kr HO_460003)) k_ hk_), (fb BK452 k_ hk_), (fb BK459 k_ hk_), (fb BK472 k_ hk_)⟩)) (below_size bes)) (bb BK452 hb) (bb BK459 hb) (bb BK472 hb) (below_step bes hb) ?_
             clear HO_453003 HO_460003 HO469 HO476 HO481 BK452 BK459 BK472 HB
             intro HO_453003 HO_460003 HO469 HO476 HO481 HO487 BK452 BK459 BK472 HB
             (try clear hb)
             (try clear hb2)
             (try clear hk)
             (try clear hi)
             (try clear ho0)
             obtain ⟨Ao86, co86, eo86⟩ := Kd.V_slice HO487.out
             (first | subst eo86 | (injection eo86 with f1_ f2_ f3_; have f4_ := f1_.symm; have f5_ := f3_.symm; clear f1_ f2_ f3_; subst f4_; subst f5_))
             refine hK.out _ _ ⟨(blk_cell BK459.out 0).trans rfl, (blk_cell BK459.out 1).trans rfl, (blk_cell BK459.out 2).trans rfl, (blk_cell BK459.out 3).trans rfl, (blk_cell BK452.out 0).trans rfl, (blk_cell BK452.out 1).trans rfl, (blk_cell BK452.out 2).trans rfl, (blk_cell BK452.out 3).trans rfl, (blk_cell BK472.out 0).trans rfl, (blk_cell BK472.out 1).trans rfl, (blk_cell BK472.out 2).trans rfl⟩ (fun hHeld => ?_)
             clear hK K
             refine norm_ (a' := ?_) ?_ ?_
             rotate_left
             ·
              show Act.put _ (some 122) _ = _
              simp only [Act.put, sa0, sa1, sa2, i64_w, i32_w]
              rfl
             refine one_ (i := 9) (N := some 124) #[true, true, true, true, true, true, true, true, true, true, false, false] rfl rfl (one_of HT_.out (by kernel_rfl)) (by decide) (fun K hK => ?_)
             refine goes_ Tryd.func13 (by kernel_rfl) rfl #[.agg #[.bool t484, .slice Ao86 t485.length co86, .int .i64 t488], .agg #[.bool t466, .slice Ao77 t467.length co77, .int .i64 t470]] (by rfl) rfl rfl ga ?_
             with_reducible refine (dyad_Num_Same.calls k4 t484 _ _ t485 t488 t466 _ _ t467 t470 t489 _ ?side1 ?side2 ?side3 ?side4 A71.out).mono ?_
             (case side1 => exact kvs HO487)
             (case side2 => exact (Kd.V_reads' HO487.out).2.1)
             (case side3 => exact kvs HO469)
             (case side4 => exact (Kd.V_reads' HO469.out).2.1)
             rintro e w87 ⟨rfl, hb⟩
             refine ⟨_, rfl, ?_⟩
             refine ax10 (Kd.R_below (kr HO_453003) hb) (Kd.R_below (kr HO_460003) hb) (Kd.V_below (kv HO469) hb) (Kd.V_below (kv HO476) hb) (Kd.V_below (kv HO481) hb) (Kd.V_below (kv HO487) hb) (bb BK452 hb) (bb BK459 hb) (bb BK472 hb) (below_step bes hb) ?_
             clear HO_453003 HO_460003 HO469 HO476 HO481 HO487 BK452 BK459 BK472 HB
             intro HO_453003 HO_460003 HO469 HO476 HO481 HO487 BK452 BK459 BK472 HB
             (try clear hb)
             (try clear hb2)
             (try clear hk)
             (try clear hi)
             refine hK.out _ _ ⟨(blk_cell BK459.out 0).trans rfl, (blk_cell BK459.out 1).trans rfl, (blk_cell BK459.out 2).trans rfl, (blk_cell BK459.out 3).trans rfl, (blk_cell BK452.out 0).trans rfl, (blk_cell BK452.out 1).trans rfl, (blk_cell BK452.out 2).trans rfl, (blk_cell BK452.out 3).trans rfl, (blk_cell BK472.out 0).trans rfl, (blk_cell BK472.out 1).trans rfl, (blk_cell BK472.out 2).trans rfl⟩ (fun hHeld => ?_)
             clear hK K
             refine norm_ (a' := ?_) ?_ ?_
             rotate_left
             ·
              show Act.put _ (some 124) _ = _
              simp only [Act.put, sa0, sa1, sa2, i64_w, i32_w]
              rfl
             refine pure_ (i := 10) (N := some 125) (v := ?_) (a' := ?_) #[true, true, true, true, true, true, true, true, true, true, true, false] rfl rfl (any_of HT_.out (by kernel_rfl)) (fun _ _ _ h => h) (Or.inl ⟨by rfl, ?_⟩) ?_ ?_
             rotate_left
             ·
              intro w'
              go_simp
              with_reducible rfl
             rotate_left
             ·
              simp only [Act.put, sa0, sa1, sa2, i64_w, i32_w]
              rfl
             refine pure_ (i := 11) (N := some 4) (v := ?_) (a' := ?_) #[true, true, true, true, true, true, true, true, true, true, true, true] rfl rfl (any_of HT_.out (by kernel_rfl)) (fun _ _ _ h => h) (Or.inl ⟨by rfl, ?_⟩) ?_ ?_
             rotate_left
             ·
              intro w'
              go_simp
              with_reducible rfl
             rotate_left
             ·
              simp only [Act.put, sa0, sa1, sa2, i64_w, i32_w]
              rfl
             refine done_ (done_of HT_.out (by kernel_rfl)) ?_
             try go_wp2
             go_ret
             exact ⟨er, bes⟩
/-- THE ONE PURE STATEMENT of gimballaw09_MatOnes: yours. -/
def gimballaw09_MatOnes.Pure : Prop := ∀ (a0 : Int) (a1 : Int), (Lit.int .i64 a0).wf = true → (Lit.int .i64 a1).wf = true → ∃ k, gimballaw09_MatOnes.f k a0 a1 = some true
theorem gimballaw09_MatOnes.walk (P : gimballaw09_MatOnes.Pure) (a0 : Int) (a1 : Int) (w : World) (w0 : (Lit.int .i64 a0).wf = true) (w1 : (Lit.int .i64 a1).wf = true) (hT : TabW w) :
  Calls Tryd.prog 4 #[.int .i64 a0, .int .i64 a1] w fun e w' => e = .returned (.bool true) ∧ Below w.heap.size w w' := by
 obtain ⟨k, h⟩ := P a0 a1 w0 w1
 refine (gimballaw09_MatOnes.calls k a0 a1 true w hT rfl h).mono ?_
 rintro e w' ⟨rfl, hd⟩
 exact ⟨rfl, hd⟩

end Go.Proofs.YtenegelkbfmjkaaDoor.F
