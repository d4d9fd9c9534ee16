-- Written by a program of this seat's session (mkprint), out of the translation.
import Derived.Test.YtenegelkbfmjkaaDoorShort
import Derived.Test.YtenegelkbfmjkaaDoorFx0
import Derived.Test.YtenegelkbfmjkaaDoorFx2
import Derived.Test.YtenegelkbfmjkaaDoorFx5
import Derived.Test.YtenegelkbfmjkaaDoorFx6
import Derived.Test.YtenegelkbfmjkaaDoorFx8
import Derived.Test.YtenegelkbfmjkaaDoorFx9
import Derived.Test.YtenegelkbfmjkaaDoorFx12
namespace Go.Proofs.YtenegelkbfmjkaaDoor.F
open Go.RowKit Go.Proofs.YtenegelkbfmjkaaDoorW.PrintWords Go.Proofs.YtenegelkbfmjkaaDoorW.PrintLast Go.Proofs.YtenegelkbfmjkaaDoorW.PrintMore
attribute [local go_sem] max2_int min2_int max_two min_two max_three min_three max_four min_four   -- for this text's walks alone
set_option linter.unusedVariables false
set_option linter.unusedSimpArgs false

/-! ### gimballaw09_MatUnits: function 3 -/
mutual
def gimballaw09_MatUnits.l0 : Nat → Bool → Int → Int → Int → Int → List Int → Bool → List Int → Int → Option (Bool)
 | 0, _, _, _, _, _, _, _, _, _ => none
 | k + 1, x10, x12, x537000, x537001, x537002, x537003, x538000, x538001, x538002 => if x12 < x537000 then (gimballaw09_MatUnits.l1 k x10 x12 0 x537000 x537001 x537002 x537003 x538000 x538001 x538002) else ((mat_Matrix_Finite.f k x537000 x537001 x537002 x537003).bind fun t566 => (if (t566 != x10) = true then (gimballaw09_MatUnits.j2 k x10 true x537000 x537001 x537002 x537003) else ((mat_Matrix_Square.f k x537000 x537001 x537002 x537003).bind fun bt567 => ((dyad_Num_Same.f k bt567.1 bt567.2.1 bt567.2.2 x538000 x538001 x538002).bind fun t572 => (gimballaw09_MatUnits.j2 k x10 (!t572) x537000 x537001 x537002 x537003)))))
def gimballaw09_MatUnits.l1 : Nat → Bool → Int → Int → Int → Int → Int → List Int → Bool → List Int → Int → Option (Bool)
 | 0, _, _, _, _, _, _, _, _, _, _ => none
 | k + 1, x10, x12, x13, x537000, x537001, x537002, x537003, x538000, x538001, x538002 => if x13 < x537001 then ((mat_Matrix_At.f x537000 x537001 x537002 x537003 x12 x13).bind fun t538 => ((dyad_Of.f k t538).bind fun bt539 => (if x10 = true then ((dyad_Num_Mul.f k bt539.1 bt539.2.1 bt539.2.2.1 bt539.1 bt539.2.1 bt539.2.2.1).bind fun bt546 => ((dyad_Num_Add.f k x538000 x538001 x538002 bt546.1 bt546.2.1 bt546.2.2).bind fun bt551 => (gimballaw09_MatUnits.l1 k bt539.2.2.2 x12 (wrap64 (x13 + 1)) x537000 x537001 x537002 x537003 bt551.1 bt551.2.1 bt551.2.2))) else ((dyad_Num_Mul.f k bt539.1 bt539.2.1 bt539.2.2.1 bt539.1 bt539.2.1 bt539.2.2.1).bind fun bt556 => ((dyad_Num_Add.f k x538000 x538001 x538002 bt556.1 bt556.2.1 bt556.2.2).bind fun bt561 => (gimballaw09_MatUnits.l1 k false x12 (wrap64 (x13 + 1)) x537000 x537001 x537002 x537003 bt561.1 bt561.2.1 bt561.2.2)))))) else (gimballaw09_MatUnits.l0 k x10 (wrap64 (x12 + 1)) x537000 x537001 x537002 x537003 x538000 x538001 x538002)
def gimballaw09_MatUnits.j2 : Nat → Bool → Bool → Int → Int → Int → List Int → Option (Bool)
 | 0, _, _, _, _, _, _ => none
 | k + 1, x10, x75, x537000, x537001, x537002, x537003 => if x75 = true then (some false) else (if x10 = true then ((mat_Matrix_Unit.f k x537000 x537001 x537002 x537003).bind fun bt573 => (gimballaw09_MatUnits.l2 k bt573.2.2.2.2 0 x537000 x537001 x537002 x537003 bt573.1 bt573.2.1 bt573.2.2.1 bt573.2.2.2.1 false ([] : List Int) 0)) else (some true))
def gimballaw09_MatUnits.l2 : Nat → Int → Int → Int → Int → Int → List Int → Int → Int → Int → List Int → Bool → List Int → Int → Option (Bool)
 | 0, _, _, _, _, _, _, _, _, _, _, _, _, _ => none
 | k + 1, x17, x19, x537000, x537001, x537002, x537003, x581000, x581001, x581002, x581003, x582000, x582001, x582002 => if x19 < x537000 then (gimballaw09_MatUnits.l3 k x17 x19 0 x537000 x537001 x537002 x537003 x581000 x581001 x581002 x581003 x582000 x582001 x582002) else ((dyad_Num_Sign.f x582000 x582001 x582002).bind fun t605 => (if t605 = 0 then (some (x17 == 0)) else ((dyad_Two.f x17).bind fun bt606 => ((dyad_Num_Cmp.f k x582000 x582001 x582002 bt606.1 bt606.2.1 bt606.2.2).bind fun t611 => (if t611 ≥ 0 then ((dyad_Two.f (wrap64 (x17 + 1))).bind fun bt612 => ((dyad_Num_Cmp.f k x582000 x582001 x582002 bt612.1 bt612.2.1 bt612.2.2).bind fun t617 => (some (decide (t617 < 0))))) else (some false))))))
def gimballaw09_MatUnits.l3 : Nat → Int → Int → Int → Int → Int → Int → List Int → Int → Int → Int → List Int → Bool → List Int → Int → Option (Bool)
 | 0, _, _, _, _, _, _, _, _, _, _, _, _, _, _ => none
 | k + 1, x17, x19, x20, x537000, x537001, x537002, x537003, x581000, x581001, x581002, x581003, x582000, x582001, x582002 => if x20 < x537001 then ((mat_Matrix_At.f x537000 x537001 x537002 x537003 x19 x20).bind fun t582 => ((dyad_Of.f k t582).bind fun bt583 => ((dyad_Num_Abs.f bt583.1 bt583.2.1 bt583.2.2.1).bind fun bt590 => ((dyad_Num_Cmp.f k bt590.1 bt590.2.1 bt590.2.2 x582000 x582001 x582002).bind fun t595 => (if t595 > 0 then ((dyad_Num_Abs.f bt583.1 bt583.2.1 bt583.2.2.1).bind fun bt596 => (gimballaw09_MatUnits.j5 k x17 x19 x20 x537000 x537001 x537002 x537003 x581000 x581001 x581002 x581003 bt596.1 bt596.2.1 bt596.2.2)) else (gimballaw09_MatUnits.j5 k x17 x19 x20 x537000 x537001 x537002 x537003 x581000 x581001 x581002 x581003 x582000 x582001 x582002)))))) else (gimballaw09_MatUnits.l2 k x17 (wrap64 (x19 + 1)) x537000 x537001 x537002 x537003 x581000 x581001 x581002 x581003 x582000 x582001 x582002)
def gimballaw09_MatUnits.j5 : Nat → Int → Int → Int → Int → Int → Int → List Int → Int → Int → Int → List Int → Bool → List Int → Int → Option (Bool)
 | 0, _, _, _, _, _, _, _, _, _, _, _, _, _, _ => none
 | k + 1, x17, x19, x20, x537000, x537001, x537002, x537003, x581000, x581001, x581002, x581003, x582000, x582001, x582002 => (mat_Matrix_At.f x537000 x537001 x537002 x537003 x19 x20).bind fun t601 => ((more_Scale.f k t601 (wrap64 (-x17))).bind fun bt602 => ((mat_Matrix_At.f x581000 x581001 x581002 x581003 x19 x20).bind fun t604 => (if t604 = bt602.1 then (gimballaw09_MatUnits.l3 k x17 x19 (wrap64 (x20 + 1)) x537000 x537001 x537002 x537003 x581000 x581001 x581002 x581003 x582000 x582001 x582002) else (some false))))
end
def gimballaw09_MatUnits.f (k : Nat) (a0 : Int) (a1 : Int) (a2 : Int) (l3 : List Int) : Option (Bool) := (gimballaw09_head.f k).bind fun t529 => (if t529 = true then (if (l3.length : Int) > 100 then (some true) else ((gimballaw09_Made.f k a0 a1 a2 l3).bind fun bt530 => (gimballaw09_MatUnits.l0 k true 0 bt530.1 bt530.2.1 bt530.2.2.1 bt530.2.2.2 false ([] : List Int) 0))) else (some false))
theorem gimballaw09_MatUnits.mono_l : ∀ k, (∀ y0 y1 y2 y3 y4 y5 y6 y7 y8, LeO (gimballaw09_MatUnits.l0 k y0 y1 y2 y3 y4 y5 y6 y7 y8) (gimballaw09_MatUnits.l0 (k + 1) y0 y1 y2 y3 y4 y5 y6 y7 y8)) ∧ (∀ y0 y1 y2 y3 y4 y5 y6 y7 y8 y9, LeO (gimballaw09_MatUnits.l1 k y0 y1 y2 y3 y4 y5 y6 y7 y8 y9) (gimballaw09_MatUnits.l1 (k + 1) y0 y1 y2 y3 y4 y5 y6 y7 y8 y9)) ∧ (∀ y0 y1 y2 y3 y4 y5, LeO (gimballaw09_MatUnits.j2 k y0 y1 y2 y3 y4 y5) (gimballaw09_MatUnits.j2 (k + 1) y0 y1 y2 y3 y4 y5)) ∧ (∀ y0 y1 y2 y3 y4 y5 y6 y7 y8 y9 y10 y11 y12, LeO (gimballaw09_MatUnits.l2 k y0 y1 y2 y3 y4 y5 y6 y7 y8 y9 y10 y11 y12) (gimballaw09_MatUnits.l2 (k + 1) y0 y1 y2 y3 y4 y5 y6 y7 y8 y9 y10 y11 y12)) ∧ (∀ y0 y1 y2 y3 y4 y5 y6 y7 y8 y9 y10 y11 y12 y13, LeO (gimballaw09_MatUnits.l3 k y0 y1 y2 y3 y4 y5 y6 y7 y8 y9 y10 y11 y12 y13) (gimballaw09_MatUnits.l3 (k + 1) y0 y1 y2 y3 y4 y5 y6 y7 y8 y9 y10 y11 y12 y13)) ∧ (∀ y0 y1 y2 y3 y4 y5 y6 y7 y8 y9 y10 y11 y12 y13, LeO (gimballaw09_MatUnits.j5 k y0 y1 y2 y3 y4 y5 y6 y7 y8 y9 y10 y11 y12 y13) (gimballaw09_MatUnits.j5 (k + 1) y0 y1 y2 y3 y4 y5 y6 y7 y8 y9 y10 y11 y12 y13))
 | 0 => ⟨fun _ _ _ _ _ _ _ _ _ r h => by simp [gimballaw09_MatUnits.l0] at h, fun _ _ _ _ _ _ _ _ _ _ r h => by simp [gimballaw09_MatUnits.l1] at h, fun _ _ _ _ _ _ r h => by simp [gimballaw09_MatUnits.j2] at h, fun _ _ _ _ _ _ _ _ _ _ _ _ _ r h => by simp [gimballaw09_MatUnits.l2] at h, fun _ _ _ _ _ _ _ _ _ _ _ _ _ _ r h => by simp [gimballaw09_MatUnits.l3] at h, fun _ _ _ _ _ _ _ _ _ _ _ _ _ _ r h => by simp [gimballaw09_MatUnits.j5] at h⟩
 | k + 1 => by
  obtain ⟨ih0, ih1, ih2, ih3, ih4, ih5⟩ := gimballaw09_MatUnits.mono_l k
  refine ⟨?_, ?_, ?_, ?_, ?_, ?_⟩ <;> intros <;> (first | unfold gimballaw09_MatUnits.l0 | unfold gimballaw09_MatUnits.l1 | unfold gimballaw09_MatUnits.j2 | unfold gimballaw09_MatUnits.l2 | unfold gimballaw09_MatUnits.l3 | unfold gimballaw09_MatUnits.j5) <;>
   repeat' with_reducible first | apply ih0 | apply ih1 | apply ih2 | apply ih3 | apply ih4 | apply ih5 | apply dyad_Num_Add.mono | apply dyad_Num_Cmp.mono | apply dyad_Num_Mul.mono | apply dyad_Num_Same.mono | apply dyad_Of.mono | apply gimballaw09_Made.mono | apply gimballaw09_head.mono | apply mat_Matrix_Finite.mono | apply mat_Matrix_Square.mono | apply mat_Matrix_Unit.mono | apply more_Scale.mono | exact LeO.refl _ | exact LeO.none _ | refine LeO.ite ?_ ?_ | refine LeO.bind ?_ (fun _ => ?_)
theorem gimballaw09_MatUnits.mono : ∀ a0 a1 a2 a3 k, LeO (gimballaw09_MatUnits.f k a0 a1 a2 a3) (gimballaw09_MatUnits.f (k + 1) a0 a1 a2 a3) := by
 intro a0 a1 a2 a3 k
 obtain ⟨ih0, ih1, ih2, ih3, ih4, ih5⟩ := gimballaw09_MatUnits.mono_l k
 unfold gimballaw09_MatUnits.f
 repeat' with_reducible first | apply ih0 | apply ih1 | apply ih2 | apply ih3 | apply ih4 | apply ih5 | apply dyad_Num_Add.mono | apply dyad_Num_Cmp.mono | apply dyad_Num_Mul.mono | apply dyad_Num_Same.mono | apply dyad_Of.mono | apply gimballaw09_Made.mono | apply gimballaw09_head.mono | apply mat_Matrix_Finite.mono | apply mat_Matrix_Square.mono | apply mat_Matrix_Unit.mono | apply more_Scale.mono | exact LeO.refl _ | exact LeO.none _ | refine LeO.ite ?_ ?_ | refine LeO.bind ?_ (fun _ => ?_)
def gimballaw09_MatUnits.T17 : Bool × List (List Nat × List Nat) := (true, [([], []), ([0], [0]), ([], []), ([1, 2], [1, 2]), ([3, 1], [3]), ([4], [4]), ([5, 4, 4], [4, 5]), ([4], [4]), ([6, 7, 6, 4], [4, 6, 7]), ([8, 4], [4, 8]), ([4, 9], [4, 9])])
def gimballaw09_MatUnits.B17 : List Nat := [0, 1, 0, 7, 15, 31, 63, 31, 255, 511, 1023]
theorem gimballaw09_MatUnits.tab17 : rtab .any (opsOf Tryd.f3 17) = gimballaw09_MatUnits.T17 := by kernel_rfl
theorem gimballaw09_MatUnits.bits17 : waitsOk gimballaw09_MatUnits.T17.2 gimballaw09_MatUnits.B17 = true := by kernel_rfl
def gimballaw09_MatUnits.T37 : Bool × List (List Nat × List Nat) := (true, [([], []), ([], []), ([1], [1]), ([0, 2, 2], [0, 2]), ([3], [3]), ([4, 3], [4]), ([5], [5]), ([5], [5]), ([7, 5], [5, 7]), ([8, 5, 5], [5, 8]), ([6, 9, 9, 5], [5, 6, 9]), ([10, 5], [5, 10]), ([5, 11], [5, 11]), ([12, 10, 0, 1, 2, 3, 4, 5, 6, 7, 8, 9, 10, 11, 12], [12])])
def gimballaw09_MatUnits.B37 : List Nat := [0, 0, 2, 7, 15, 31, 63, 63, 191, 447, 1023, 2047, 4095, 8191]
theorem gimballaw09_MatUnits.tab37 : rtab .any (opsOf Tryd.f3 37) = gimballaw09_MatUnits.T37 := by kernel_rfl
theorem gimballaw09_MatUnits.bits37 : waitsOk gimballaw09_MatUnits.T37.2 gimballaw09_MatUnits.B37 = true := by kernel_rfl
set_option maxHeartbeats 8000000 in
set_option maxRecDepth 100000 in
theorem gimballaw09_MatUnits.calls (k : Nat) (a0 : Int) (a1 : Int) (a2 : Int) (A3 : Option Addr) (c3 : Nat) (l3 : List Int) (r : Bool) (w : World) (hr3 : Kd.C (Kd.int .u64) w A3 l3.length l3) (hc3 : l3.length ≤ c3) (hT : TabW w) (hLW : r = true) (h : gimballaw09_MatUnits.f k a0 a1 a2 l3 = some r) :
  Calls Tryd.prog 3 #[.int .i64 a0, .int .i64 a1, .int .i64 a2, .slice A3 l3.length c3] w fun e w' => e = .returned (.bool r) ∧ Below w.heap.size w w' := by
 have hu25 := Tryd.underlying25
 have hu29 := Tryd.underlying29
 have HR3 := Aside0.mk hr3
 have HC3 := Aside0.mk hc3
 clear hr3 hc3
 have HB := Aside0.mk (Below.refl w.heap.size w)
 have H : ((gimballaw09_head.f k).bind fun t529 => (if t529 = true then (if (l3.length : Int) > 100 then (some true) else ((gimballaw09_Made.f k a0 a1 a2 l3).bind fun bt530 => (gimballaw09_MatUnits.l0 k true 0 bt530.1 bt530.2.1 bt530.2.2.1 bt530.2.2.2 false ([] : List Int) 0))) else (some false))) = some r := h
 clear h
 obtain ⟨t529, A50, H⟩ := Option.bind_eq_some_iff.mp H
 (try dsimp -simprocs only at H)
 have A5 := Aside0.mk A50
 clear A50
 by_cases c6 : t529 = true
 rotate_left
 ·
  replace c6 := Bool.eq_false_iff.mpr c6
  subst c6
  rw [if_neg (show ¬ (false = true) by decide)] at H
  rw [hLW] at H
  exact absurd H (by simp)

 subst c6
 rw [if_pos rfl] at H
 by_cases c7 : (l3.length : Int) > 100
 ·
  rw [if_pos c7] at H
  have c7b0 : decide (100 < (l3.length : Int)) = true := decide_eq_true c7
  have c7b1 : decide (100 < l3.length) = true := decide_eq_true (by omega)
  clear c7
  obtain rfl := Option.some.inj H
  go_enter Tryd.func3, Tryd.ntmps3
  go_wp2_with (first | ((with_reducible refine gate_callee (f := 5) rfl ?_); refine goesL_ (some 25) rfl rfl Tryd.func5 (by kernel_rfl) rfl #[] rfl ga ?_; (with_reducible refine (gimballaw09_head.calls k  true _ A5.out).mono ?_); rintro e w8 ⟨rfl, hb⟩; refine ⟨_, rfl, ?_⟩; refine ax1 (below_step bel hb) ?_; clear HB; intro HB; (try clear hb)))
  go_ret
  exact ⟨er, bel⟩
 ·
  rw [if_neg c7] at H
  have c7b0 : decide (100 < (l3.length : Int)) = false := decide_eq_false c7
  have c7b1 : decide (100 < l3.length) = false := decide_eq_false (by omega)
  clear c7
  obtain ⟨⟨t530, t531, t532, t533⟩, A90, H⟩ := Option.bind_eq_some_iff.mp H
  (try dsimp -simprocs only at H)
  have A9 := Aside0.mk A90
  clear A90
  have H' := Aside0.mk H
  clear H
  go_enter Tryd.func3, Tryd.ntmps3
  go_wp2_with (first | ((with_reducible refine gate_callee (f := 5) rfl ?_); refine goesL_ (some 25) rfl rfl Tryd.func5 (by kernel_rfl) rfl #[] rfl ga ?_; (with_reducible refine (gimballaw09_head.calls k  true _ A5.out).mono ?_); rintro e w10 ⟨rfl, hb⟩; refine ⟨_, rfl, ?_⟩; refine ax1 (below_step bel hb) ?_; clear HB; intro HB; (try clear hb)) | ((with_reducible refine gate_callee (f := 6) rfl ?_); refine goesL_ (some 34) rfl rfl Tryd.func6 (by kernel_rfl) rfl #[.int .i64 a0, .int .i64 a1, .int .i64 a2, .slice A3 l3.length c3] rfl ga ?_; (with_reducible refine (gimballaw09_Made.calls k a0 a1 a2 _ _ l3 t530 t531 t532 t533 _ ?side1 ?side2 A9.out).mono ?_); (case side1 => repeat (first | exact (Kd.C_below HR3.out HB.out) | (with_reducible refine Kd.C_alloc ?_ _) | (with_reducible refine Kd.C_drewN ?_ _) | (with_reducible refine Kd.C_drew ?_))); (case side2 => exact HC3.out); rintro e w11 ⟨v534, rfl, ho0, hb⟩; refine ⟨_, rfl, ?_⟩; refine ax2 (Kd.R_lower ho0 (below_size bel)) (below_step bel hb) ?_; clear HB; intro HO535 HB; (try clear hb); (try clear ho0)) | ((with_reducible refine gate_dst (N := 9) rfl ?_); refine gbox (N := 9) (cs := #[.int .i64 0, .int .i64 0, .int .i64 0, .slice none 0 0]) (t := 25) ?_; intro gb536 hg w12 hbox hb; refine ax5 (Kd.R_below (kr HO535) hb) (below_step bel hb) hbox ((ge hg : w.heap.size ≤ gb536)) ((ge hg : w.heap.size ≤ gb536)) ?_; clear HO535; clear HB; intro HO535 HB BK536 GW536 GE536; clear hb hbox hg; have hcz13_0 := bc BK536 0 rfl; have hcz13_1 := bc BK536 1 rfl; have hcz13_2 := bc BK536 2 rfl; have hcz13_3 := bc BK536 3 rfl; have hfz13_0 := blk_frozen BK536.out 0; have hfz13_1 := blk_frozen BK536.out 1; have hfz13_2 := blk_frozen BK536.out 2; have hfz13_3 := blk_frozen BK536.out 3; obtain ⟨Ao14, co14, eo14⟩ := Kd.R_slice HO535.out; subst eo14) | ((with_reducible refine gate_dst (N := 11) rfl ?_); refine gbox (N := 11) (cs := #[.bool false, .slice none 0 0, .int .i64 0]) (t := 29) ?_; intro gb537 hg w15 hbox hb; refine ax8 (Kd.R_below (by (with_reducible repeat (first | apply Kd.R_alloc | apply Kd.R_drewN | apply Kd.R_drew)); exact (Kd.R_mono (Kd.R_far (p := ⟨gb536, 3, none⟩) (Kd.R_far (p := ⟨gb536, 2, none⟩) (Kd.R_far (p := ⟨gb536, 1, none⟩) (Kd.R_far (p := ⟨gb536, 0, none⟩) (Kd.R_types HO535.out BK536.out (by decide)) (fun _ hk => hk.2) (.int .i64 t530)) (fun _ hk => hk.2) (.int .i64 t531)) (fun _ hk => hk.2) (.int .i64 t532)) (fun _ hk => hk.2) (.slice Ao14 t533.length co14)) (fun _ h_ => h_.1))) hb) (blk_below (g := gb536) (o := .cells #[.int .i64 t530, .int .i64 t531, .int .i64 t532, .slice Ao14 t533.length co14] 25 (0, 0)) (by (with_reducible repeat (first | refine blk_drewN ?_ _ | refine blk_drew ?_ | refine blk_alloc ?_ _)); refine blk_put (cs := #[.int .i64 t530, .int .i64 t531, .int .i64 t532, .slice none 0 0]) ?_ 3 _ rfl; (with_reducible repeat (first | refine blk_drewN ?_ _ | refine blk_drew ?_ | refine blk_alloc ?_ _)); refine blk_put (cs := #[.int .i64 t530, .int .i64 t531, .int .i64 0, .slice none 0 0]) ?_ 2 _ rfl; (with_reducible repeat (first | refine blk_drewN ?_ _ | refine blk_drew ?_ | refine blk_alloc ?_ _)); refine blk_put (cs := #[.int .i64 t530, .int .i64 0, .int .i64 0, .slice none 0 0]) ?_ 1 _ rfl; (with_reducible repeat (first | refine blk_drewN ?_ _ | refine blk_drew ?_ | refine blk_alloc ?_ _)); refine blk_put (cs := #[.int .i64 0, .int .i64 0, .int .i64 0, .slice none 0 0]) ?_ 0 _ rfl; (with_reducible repeat (first | refine blk_drewN ?_ _ | refine blk_drew ?_ | refine blk_alloc ?_ _)); exact BK536.out) hb) (below_step bes hb) hbox ((ge hg : w.heap.size ≤ gb537)) ((ge hg : w.heap.size ≤ gb537)) ((by rw [hg]; exact Nat.ne_of_lt (blk_lt (g := gb536) (o := .cells #[.int .i64 t530, .int .i64 t531, .int .i64 t532, .slice Ao14 t533.length co14] 25 (0, 0)) (by (with_reducible repeat (first | refine blk_drewN ?_ _ | refine blk_drew ?_ | refine blk_alloc ?_ _)); refine blk_put (cs := #[.int .i64 t530, .int .i64 t531, .int .i64 t532, .slice none 0 0]) ?_ 3 _ rfl; (with_reducible repeat (first | refine blk_drewN ?_ _ | refine blk_drew ?_ | refine blk_alloc ?_ _)); refine blk_put (cs := #[.int .i64 t530, .int .i64 t531, .int .i64 0, .slice none 0 0]) ?_ 2 _ rfl; (with_reducible repeat (first | refine blk_drewN ?_ _ | refine blk_drew ?_ | refine blk_alloc ?_ _)); refine blk_put (cs := #[.int .i64 t530, .int .i64 0, .int .i64 0, .slice none 0 0]) ?_ 1 _ rfl; (with_reducible repeat (first | refine blk_drewN ?_ _ | refine blk_drew ?_ | refine blk_alloc ?_ _)); refine blk_put (cs := #[.int .i64 0, .int .i64 0, .int .i64 0, .slice none 0 0]) ?_ 0 _ rfl; (with_reducible repeat (first | refine blk_drewN ?_ _ | refine blk_drew ?_ | refine blk_alloc ?_ _)); exact BK536.out)) : gb536 ≠ gb537)) ((by rw [hg]; exact Nat.ne_of_gt (blk_lt (g := gb536) (o := .cells #[.int .i64 t530, .int .i64 t531, .int .i64 t532, .slice Ao14 t533.length co14] 25 (0, 0)) (by (with_reducible repeat (first | refine blk_drewN ?_ _ | refine blk_drew ?_ | refine blk_alloc ?_ _)); refine blk_put (cs := #[.int .i64 t530, .int .i64 t531, .int .i64 t532, .slice none 0 0]) ?_ 3 _ rfl; (with_reducible repeat (first | refine blk_drewN ?_ _ | refine blk_drew ?_ | refine blk_alloc ?_ _)); refine blk_put (cs := #[.int .i64 t530, .int .i64 t531, .int .i64 0, .slice none 0 0]) ?_ 2 _ rfl; (with_reducible repeat (first | refine blk_drewN ?_ _ | refine blk_drew ?_ | refine blk_alloc ?_ _)); refine blk_put (cs := #[.int .i64 t530, .int .i64 0, .int .i64 0, .slice none 0 0]) ?_ 1 _ rfl; (with_reducible repeat (first | refine blk_drewN ?_ _ | refine blk_drew ?_ | refine blk_alloc ?_ _)); refine blk_put (cs := #[.int .i64 0, .int .i64 0, .int .i64 0, .slice none 0 0]) ?_ 0 _ rfl; (with_reducible repeat (first | refine blk_drewN ?_ _ | refine blk_drew ?_ | refine blk_alloc ?_ _)); exact BK536.out)) : gb537 ≠ gb536)) ?_; clear HO535; clear BK536; clear HB; intro HO535 BK536 HB BK537 GW537 GE537 NB536_537 NB537_536; clear hb hbox hg; have hnb16 := NB537_536.out; have hnc16 := NB536_537.out; have hcz17_0 := bc BK537 0 rfl; have hcz17_1 := bc BK537 1 rfl; have hcz17_2 := bc BK537 2 rfl; have hfz17_0 := blk_frozen BK537.out 0; have hfz17_1 := blk_frozen BK537.out 1; have hfz17_2 := blk_frozen BK537.out 2))
  go_loopg [10, 12] k (fun kq v10 v12 w' => ∃ (x10_1 : Bool) (x12_1 : Int) (x538000_1 : Bool) (x538001_1 : List Int) (x538002_1 : Int) (u538001 : Value), v10 = .bool x10_1 ∧ v12 = .int .i64 x12_1 ∧ Aside0 (gimballaw09_MatUnits.l0 kq x10_1 x12_1 t530 t531 t532 t533 x538000_1 x538001_1 x538002_1 = some r) ∧ Aside0 (kq ≤ k) ∧ Aside0 (Kd.R (Kd.int .u64) 32 w' w.heap.size (fun _ => True) (.slice Ao14 t533.length co14) t533) ∧ Aside0 (Kd.V (Kd.int .u32) 56 w' w.heap.size (fun k_ => some k_ ≠ ((.slice Ao14 t533.length co14) : Value).ownBlock ∧ k_ ≠ gb536 ∧ k_ ≠ gb537) u538001 x538001_1) ∧ Aside0 (w'.heap[gb536]? = some (.cells #[.int .i64 t530, .int .i64 t531, .int .i64 t532, (.slice Ao14 t533.length co14)] 25 (0, 0))) ∧ Aside0 (w'.heap[gb537]? = some (.cells #[.bool x538000_1, u538001, .int .i64 x538002_1] 29 (0, 0))) ∧ Aside0 (Below w.heap.size w w'))
  case atStart => exact ⟨(true), (0), (false), (([] : List Int)), (0), (.slice none 0 0), (by first | rfl | (simp; done) | (simp [*]; done)), (by first | rfl | (simp; done) | (simp [*]; done)), H', ⟨Nat.le_refl _⟩, ⟨by (with_reducible repeat (first | apply Kd.R_alloc | apply Kd.R_drewN | apply Kd.R_drew)); exact Kd.R_mono (Kd.R_far (p := ⟨gb537, 2, none⟩) (Kd.R_far (p := ⟨gb537, 1, none⟩) (Kd.R_far (p := ⟨gb537, 0, none⟩) (Kd.R_types HO535.out BK537.out (by decide)) (fun _ hk => hk.2) (.bool false)) (fun _ hk => hk.2) (.slice none 0 0)) (fun _ hk => hk.2) (.int .i64 0)) (fun _ hk => trivial)⟩, ⟨Kd.V_nil _ _ _ _ _⟩, ⟨by (with_reducible repeat (first | refine blk_drewN ?_ _ | refine blk_drew ?_ | refine blk_alloc ?_ _)); refine blk_far ?_ NB536_537.out _; (with_reducible repeat (first | refine blk_drewN ?_ _ | refine blk_drew ?_ | refine blk_alloc ?_ _)); refine blk_far ?_ NB536_537.out _; (with_reducible repeat (first | refine blk_drewN ?_ _ | refine blk_drew ?_ | refine blk_alloc ?_ _)); refine blk_far ?_ NB536_537.out _; (with_reducible repeat (first | refine blk_drewN ?_ _ | refine blk_drew ?_ | refine blk_alloc ?_ _)); exact BK536.out⟩, ⟨by (with_reducible repeat (first | refine blk_drewN ?_ _ | refine blk_drew ?_ | refine blk_alloc ?_ _)); refine blk_put (cs := #[.bool false, .slice none 0 0, .int .i64 0]) ?_ 2 _ rfl; (with_reducible repeat (first | refine blk_drewN ?_ _ | refine blk_drew ?_ | refine blk_alloc ?_ _)); refine blk_put (cs := #[.bool false, .slice none 0 0, .int .i64 0]) ?_ 1 _ rfl; (with_reducible repeat (first | refine blk_drewN ?_ _ | refine blk_drew ?_ | refine blk_alloc ?_ _)); refine blk_put (cs := #[.bool false, .slice none 0 0, .int .i64 0]) ?_ 0 _ rfl; (with_reducible repeat (first | refine blk_drewN ?_ _ | refine blk_drew ?_ | refine blk_alloc ?_ _)); exact BK537.out⟩, ⟨bes⟩⟩
  case round =>
   clear H'
   try clear c1
   try clear p2
   try clear c3
   try clear c5
   try clear c6
   try clear c7
   try clear c7b0
   try clear c7b1
   try clear c16
   try clear hcz13_0
   try clear hcz13_1
   try clear hcz13_2
   try clear hcz13_3
   try clear hcz17_0
   try clear hcz17_1
   try clear hcz17_2
   try clear hfz13_0
   try clear hfz13_1
   try clear hfz13_2
   try clear hfz13_3
   try clear hfz17_0
   try clear hfz17_1
   try clear hfz17_2
   obtain ⟨x10_1, x12_1, x538000_1, x538001_1, x538002_1, u538001, rfl, rfl, HA, HK1, HO_537003, HO_538001, BK536, BK537, HB⟩ := hrel
   cases gk with
   | zero => exact absurd HA.out (by simp [gimballaw09_MatUnits.l0])
   | succ k1 =>
    have H := HA.out
    clear HA
    simp only [gimballaw09_MatUnits.l0] at H
    by_cases c18 : x12_1 < t530
    ·
     rw [if_pos c18] at H
     have c18b0 : decide (x12_1 < t530) = true := decide_eq_true c18
     clear c18
     have H' := Aside0.mk H
     clear H
     have hnb19 := NB536_537.out
     have hnc19 := NB537_536.out
     have hcz20_0 := bc BK536 0 rfl
     have hcz20_1 := bc BK536 1 rfl
     have hcz20_2 := bc BK536 2 rfl
     have hcz20_3 := bc BK536 3 rfl
     have hfz20_0 := blk_frozen BK536.out 0
     have hfz20_1 := blk_frozen BK536.out 1
     have hfz20_2 := blk_frozen BK536.out 2
     have hfz20_3 := blk_frozen BK536.out 3
     go_wp2
     go_loopg [10, 13] k1 (fun kq v10 v13 w' => ∃ (x10_2 : Bool) (x13_2 : Int) (x538000_2 : Bool) (x538001_2 : List Int) (x538002_2 : Int) (u538001 : Value), v10 = .bool x10_2 ∧ v13 = .int .i64 x13_2 ∧ Aside0 (gimballaw09_MatUnits.l1 kq x10_2 x12_1 x13_2 t530 t531 t532 t533 x538000_2 x538001_2 x538002_2 = some r) ∧ Aside0 (kq ≤ k1) ∧ Aside0 (Kd.R (Kd.int .u64) 32 w' w.heap.size (fun _ => True) (.slice Ao14 t533.length co14) t533) ∧ Aside0 (Kd.V (Kd.int .u32) 56 w' w.heap.size (fun k_ => some k_ ≠ ((.slice Ao14 t533.length co14) : Value).ownBlock ∧ k_ ≠ gb536 ∧ k_ ≠ gb537) u538001 x538001_2) ∧ Aside0 (w'.heap[gb536]? = some (.cells #[.int .i64 t530, .int .i64 t531, .int .i64 t532, (.slice Ao14 t533.length co14)] 25 (0, 0))) ∧ Aside0 (w'.heap[gb537]? = some (.cells #[.bool x538000_2, u538001, .int .i64 x538002_2] 29 (0, 0))) ∧ Aside0 (Below w.heap.size w w'))
     case atStart => exact ⟨(x10_1), (0), (x538000_1), (x538001_1), (x538002_1), (u538001), (by first | rfl | (simp; done) | (simp [*]; done)), (by first | rfl | (simp; done) | (simp [*]; done)), H', ⟨Nat.le_refl _⟩, ⟨kr HO_537003⟩, ⟨kv HO_538001⟩, ⟨kb BK536⟩, ⟨kb BK537⟩, ⟨bes⟩⟩
     case round =>
      clear H'
      try clear c1
      try clear p2
      try clear c3
      try clear c5
      try clear c6
      try clear c7
      try clear c7b0
      try clear c7b1
      try clear c16
      try clear c18
      try clear c18b0
      try clear c19
      try clear hcz13_0
      try clear hcz13_1
      try clear hcz13_2
      try clear hcz13_3
      try clear hcz17_0
      try clear hcz17_1
      try clear hcz17_2
      try clear hcz20_0
      try clear hcz20_1
      try clear hcz20_2
      try clear hcz20_3
      try clear hfz13_0
      try clear hfz13_1
      try clear hfz13_2
      try clear hfz13_3
      try clear hfz17_0
      try clear hfz17_1
      try clear hfz17_2
      try clear hfz20_0
      try clear hfz20_1
      try clear hfz20_2
      try clear hfz20_3
      try clear p2
      obtain ⟨x10_2, x13_2, x538000_2, x538001_2, x538002_2, u538001, rfl, rfl, HA, HK2, HO_537003, HO_538001, BK536, BK537, HB⟩ := hrel
      cases gk with
      | zero => exact absurd HA.out (by simp [gimballaw09_MatUnits.l1])
      | succ k2 =>
       have H := HA.out
       clear HA
       simp only [gimballaw09_MatUnits.l1] at H
       by_cases c21 : x13_2 < t531
       ·
        rw [if_pos c21] at H
        have c21b0 : decide (x13_2 < t531) = true := decide_eq_true c21
        clear c21
        obtain ⟨t538, A220, H⟩ := Option.bind_eq_some_iff.mp H
        (try dsimp -simprocs only at H)
        have A22 := Aside0.mk A220
        clear A220
        obtain ⟨⟨t539, t540, t543, t544⟩, A230, H⟩ := Option.bind_eq_some_iff.mp H
        (try dsimp -simprocs only at H)
        have A23 := Aside0.mk A230
        clear A230
        by_cases c24 : x10_2 = true
        ·
         subst c24
         rw [if_pos rfl] at H
         obtain ⟨⟨t546, t547, t550⟩, A250, H⟩ := Option.bind_eq_some_iff.mp H
         (try dsimp -simprocs only at H)
         have A25 := Aside0.mk A250
         clear A250
         obtain ⟨⟨t551, t552, t555⟩, A260, H⟩ := Option.bind_eq_some_iff.mp H
         (try dsimp -simprocs only at H)
         have A26 := Aside0.mk A260
         clear A260
         have H' := Aside0.mk H
         clear H
         have hnb27 := NB536_537.out
         have hnc27 := NB537_536.out
         have hcz28_0 := bc BK536 0 rfl
         have hcz28_1 := bc BK536 1 rfl
         have hcz28_2 := bc BK536 2 rfl
         have hcz28_3 := bc BK536 3 rfl
         have hfz28_0 := blk_frozen BK536.out 0
         have hfz28_1 := blk_frozen BK536.out 1
         have hfz28_2 := blk_frozen BK536.out 2
         have hfz28_3 := blk_frozen BK536.out 3
         try go_wp2_with (first | ((with_reducible refine gate_callee (f := 8) rfl ?_); refine goesL_ (some 52) rfl rfl Tryd.func8 (by kernel_rfl) rfl #[.agg #[.int .i64 t530, .int .i64 t531, .int .i64 t532, .slice Ao14 t533.length co14], .int .i64 x12_1, .int .i64 x13_2] rfl ga ?_; (with_reducible refine (mat_Matrix_At.calls t530 t531 t532 _ _ t533 x12_1 x13_2 t538 _ ?side1 ?side2 A22.out).mono ?_); (case side1 => exact ks HO_537003); (case side2 => exact (Kd.R_reads' HO_537003.out).2.1); rintro e w29 ⟨rfl, hb⟩; refine ⟨_, rfl, ?_⟩; refine ax5 (Kd.R_below (kr HO_537003) hb) (Kd.V_below (kv HO_538001) hb) (bb BK536 hb) (bb BK537 hb) (below_step bes hb) ?_; clear HO_537003; clear HO_538001; clear BK536; clear BK537; clear HB; intro HO_537003 HO_538001 BK536 BK537 HB; (try clear hb)) | ((with_reducible refine gate_callee (f := 7) rfl ?_); refine goesL_ (some 53) rfl rfl Tryd.func7 (by kernel_rfl) rfl #[.int .u64 t538] rfl ga ?_; (with_reducible refine (dyad_Of.calls k2 t538 t539 t540 t543 t544 _ ?side1 A23.out).mono ?_); (case side1 => first | exact hT | exact TabW.drewN hT _ | exact TabW.drew hT | exact TabW.below hT bes); rintro e w30 ⟨v541, rfl, ho0, hb⟩; refine ⟨_, rfl, ?_⟩; refine ax6 (Kd.R_below (kr HO_537003) hb) (Kd.V_below (kv HO_538001) hb) (Kd.V_lower (Kd.V_mono (ok' := fun k_ => some k_ ≠ (.slice Ao14 t533.length co14 : Value).ownBlock ∧ k_ ≠ gb536 ∧ k_ ≠ gb537) ho0 (fun k_ hk_ => ⟨(Kd.fresh' (Kd.R_lt (kr HO_537003)) k_ hk_), (fb BK536 k_ hk_), (fb BK537 k_ hk_)⟩)) (below_size bes)) (bb BK536 hb) (bb BK537 hb) (below_step bes hb) ?_; clear HO_537003; clear HO_538001; clear BK536; clear BK537; clear HB; intro HO_537003 HO_538001 HO542 BK536 BK537 HB; (try clear hb); (try clear ho0)) | ((with_reducible refine gate_dst (N := 14) rfl ?_); refine gbox (N := 14) (cs := #[.bool false, .slice none 0 0, .int .i64 0]) (t := 29) ?_; intro gb545 hg w31 hbox hb; refine ax13 (Kd.R_below (kr HO_537003) hb) (Kd.V_below (Kd.V_elderB (kv HO_538001) gb545 (Nat.le_of_eq hg.symm)) hb) (Kd.V_below (Kd.V_elderB (kv HO542) gb545 (Nat.le_of_eq hg.symm)) hb) (bb BK536 hb) (bb BK537 hb) (below_step bes hb) hbox ((ge hg : w.heap.size ≤ gb545)) ((ge hg : w.heap.size ≤ gb545)) (nl hg BK536) (ng hg BK536) (nl hg BK537) (ng hg BK537) ?_; clear HO_537003; clear HO_538001; clear HO542; clear BK536; clear BK537; clear HB; intro HO_537003 HO_538001 HO542 BK536 BK537 HB BK545 GW545 GE545 NB536_545 NB545_536 NB537_545 NB545_537; clear hb hbox hg; have hnb32 := NB545_536.out; have hnc32 := NB536_545.out; have hnb33 := NB545_537.out; have hnc33 := NB537_545.out; have hcz34_0 := bc BK545 0 rfl; have hcz34_1 := bc BK545 1 rfl; have hcz34_2 := bc BK545 2 rfl; have hfz34_0 := blk_frozen BK545.out 0; have hfz34_1 := blk_frozen BK545.out 1; have hfz34_2 := blk_frozen BK545.out 2; obtain ⟨Ao35, co35, eo35⟩ := Kd.V_slice HO542.out; subst eo35))
         have n0_ : Aside0 (Kd.R (Kd.int .u64) 32 (((w31.setCell ⟨gb545, 0, none⟩ (.bool t539)).setCell ⟨gb545, 1, none⟩ (.slice Ao35 t540.length co35)).setCell ⟨gb545, 2, none⟩ (.int .i64 t543)) w.heap.size (fun _ => True) (.slice Ao14 t533.length co14) t533) := ⟨by (with_reducible repeat (first | apply Kd.R_alloc | apply Kd.R_drewN | apply Kd.R_drew)); exact Kd.R_mono (Kd.R_far (p := ⟨gb545, 2, none⟩) (Kd.R_far (p := ⟨gb545, 1, none⟩) (Kd.R_far (p := ⟨gb545, 0, none⟩) (Kd.R_types HO_537003.out BK545.out (by decide)) (fun _ hk => hk.2) (.bool t539)) (fun _ hk => hk.2) (.slice Ao35 t540.length co35)) (fun _ hk => hk.2) (.int .i64 t543)) (fun _ hk => trivial)⟩
         have n1_ : Aside0 (Kd.V (Kd.int .u32) 56 (((w31.setCell ⟨gb545, 0, none⟩ (.bool t539)).setCell ⟨gb545, 1, none⟩ (.slice Ao35 t540.length co35)).setCell ⟨gb545, 2, none⟩ (.int .i64 t543)) w.heap.size (fun k_ => some k_ ≠ (.slice Ao14 t533.length co14 : Value).ownBlock ∧ k_ ≠ gb536 ∧ k_ ≠ gb537 ∧ k_ ≠ gb545) u538001 x538001_2) := ⟨by (with_reducible repeat (first | apply Kd.V_alloc | apply Kd.V_drewN | apply Kd.V_drew)); exact Kd.V_mono (Kd.V_far (p := ⟨gb545, 2, none⟩) (Kd.V_far (p := ⟨gb545, 1, none⟩) (Kd.V_far (p := ⟨gb545, 0, none⟩) (Kd.V_mono HO_538001.out (fun k_ hk => (⟨hk, hk.2⟩ : _ ∧ k_ ≠ gb545))) (fun _ hk => hk.2) (.bool t539)) (fun _ hk => hk.2) (.slice Ao35 t540.length co35)) (fun _ hk => hk.2) (.int .i64 t543)) (fun _ hk => ⟨hk.1.1.1, ⟨hk.1.1.2.1, ⟨hk.1.1.2.2, hk.1.2⟩⟩⟩)⟩
         have n2_ : Aside0 (Kd.V (Kd.int .u32) 56 (((w31.setCell ⟨gb545, 0, none⟩ (.bool t539)).setCell ⟨gb545, 1, none⟩ (.slice Ao35 t540.length co35)).setCell ⟨gb545, 2, none⟩ (.int .i64 t543)) w.heap.size (fun k_ => some k_ ≠ (.slice Ao14 t533.length co14 : Value).ownBlock ∧ k_ ≠ gb536 ∧ k_ ≠ gb537 ∧ k_ ≠ gb545) (.slice Ao35 t540.length co35) t540) := ⟨by (with_reducible repeat (first | apply Kd.V_alloc | apply Kd.V_drewN | apply Kd.V_drew)); exact Kd.V_mono (Kd.V_far (p := ⟨gb545, 2, none⟩) (Kd.V_far (p := ⟨gb545, 1, none⟩) (Kd.V_far (p := ⟨gb545, 0, none⟩) (Kd.V_mono HO542.out (fun k_ hk => (⟨hk, hk.2⟩ : _ ∧ k_ ≠ gb545))) (fun _ hk => hk.2) (.bool t539)) (fun _ hk => hk.2) (.slice Ao35 t540.length co35)) (fun _ hk => hk.2) (.int .i64 t543)) (fun _ hk => ⟨hk.1.1.1, ⟨hk.1.1.2.1, ⟨hk.1.1.2.2, hk.1.2⟩⟩⟩)⟩
         have n3_ : Aside0 ((((w31.setCell ⟨gb545, 0, none⟩ (.bool t539)).setCell ⟨gb545, 1, none⟩ (.slice Ao35 t540.length co35)).setCell ⟨gb545, 2, none⟩ (.int .i64 t543)).heap[gb536]? = some (.cells #[.int .i64 t530, .int .i64 t531, .int .i64 t532, .slice Ao14 t533.length co14] 25 (0, 0))) := ⟨by (with_reducible repeat (first | refine blk_drewN ?_ _ | refine blk_drew ?_ | refine blk_alloc ?_ _)); refine blk_far ?_ NB536_545.out _; (with_reducible repeat (first | refine blk_drewN ?_ _ | refine blk_drew ?_ | refine blk_alloc ?_ _)); refine blk_far ?_ NB536_545.out _; (with_reducible repeat (first | refine blk_drewN ?_ _ | refine blk_drew ?_ | refine blk_alloc ?_ _)); refine blk_far ?_ NB536_545.out _; (with_reducible repeat (first | refine blk_drewN ?_ _ | refine blk_drew ?_ | refine blk_alloc ?_ _)); exact BK536.out⟩
         have n4_ : Aside0 ((((w31.setCell ⟨gb545, 0, none⟩ (.bool t539)).setCell ⟨gb545, 1, none⟩ (.slice Ao35 t540.length co35)).setCell ⟨gb545, 2, none⟩ (.int .i64 t543)).heap[gb537]? = some (.cells #[.bool x538000_2, u538001, .int .i64 x538002_2] 29 (0, 0))) := ⟨by (with_reducible repeat (first | refine blk_drewN ?_ _ | refine blk_drew ?_ | refine blk_alloc ?_ _)); refine blk_far ?_ NB537_545.out _; (with_reducible repeat (first | refine blk_drewN ?_ _ | refine blk_drew ?_ | refine blk_alloc ?_ _)); refine blk_far ?_ NB537_545.out _; (with_reducible repeat (first | refine blk_drewN ?_ _ | refine blk_drew ?_ | refine blk_alloc ?_ _)); refine blk_far ?_ NB537_545.out _; (with_reducible repeat (first | refine blk_drewN ?_ _ | refine blk_drew ?_ | refine blk_alloc ?_ _)); exact BK537.out⟩
         have n5_ : Aside0 ((((w31.setCell ⟨gb545, 0, none⟩ (.bool t539)).setCell ⟨gb545, 1, none⟩ (.slice Ao35 t540.length co35)).setCell ⟨gb545, 2, none⟩ (.int .i64 t543)).heap[gb545]? = some (.cells #[.bool t539, .slice Ao35 t540.length co35, .int .i64 t543] 29 (0, 0))) := ⟨by (with_reducible repeat (first | refine blk_drewN ?_ _ | refine blk_drew ?_ | refine blk_alloc ?_ _)); refine blk_put (cs := #[.bool t539, .slice Ao35 t540.length co35, .int .i64 0]) ?_ 2 _ rfl; (with_reducible repeat (first | refine blk_drewN ?_ _ | refine blk_drew ?_ | refine blk_alloc ?_ _)); refine blk_put (cs := #[.bool t539, .slice none 0 0, .int .i64 0]) ?_ 1 _ rfl; (with_reducible repeat (first | refine blk_drewN ?_ _ | refine blk_drew ?_ | refine blk_alloc ?_ _)); refine blk_put (cs := #[.bool false, .slice none 0 0, .int .i64 0]) ?_ 0 _ rfl; (with_reducible repeat (first | refine blk_drewN ?_ _ | refine blk_drew ?_ | refine blk_alloc ?_ _)); exact BK545.out⟩
         have n6_ : Aside0 (Below w.heap.size w (((w31.setCell ⟨gb545, 0, none⟩ (.bool t539)).setCell ⟨gb545, 1, none⟩ (.slice Ao35 t540.length co35)).setCell ⟨gb545, 2, none⟩ (.int .i64 t543))) := ⟨bes⟩
         (try clear HO_537003)
         (try clear HO_538001)
         (try clear HO542)
         (try clear BK536)
         (try clear BK537)
         (try clear BK545)
         (try clear HB)
         generalize (((w31.setCell ⟨gb545, 0, none⟩ (.bool t539)).setCell ⟨gb545, 1, none⟩ (.slice Ao35 t540.length co35)).setCell ⟨gb545, 2, none⟩ (.int .i64 t543)) = w36 at n0_ n1_ n2_ n3_ n4_ n5_ n6_ ⊢
         have HO_537003 := n0_
         have HO_538001 := n1_
         have HO542 := n2_
         have BK536 := n3_
         have BK537 := n4_
         have BK545 := n5_
         have HB := n6_
         clear n0_ n1_ n2_ n3_ n4_ n5_ n6_
         refine ax7 (Kd.R_drew HO_537003.out) (Kd.V_drew HO_538001.out) (Kd.V_drew HO542.out) (blk_drew BK536.out) (blk_drew BK537.out) (blk_drew BK545.out) (below_drew1 HB.out) ?_
         clear HO_537003 HO_538001 HO542 BK536 BK537 BK545 HB
         intro HO_537003 HO_538001 HO542 BK536 BK537 BK545 HB
         refine start_ (n := 6) (S := fun w' => w'.cell? ⟨gb537, 0, none⟩ = some (.bool x538000_2) ∧ w'.cell? ⟨gb537, 1, none⟩ = some (u538001) ∧ w'.cell? ⟨gb537, 2, none⟩ = some (.int .i64 x538002_2) ∧ w'.cell? ⟨gb545, 0, none⟩ = some (.bool t539) ∧ w'.cell? ⟨gb545, 1, none⟩ = some (.slice Ao35 t540.length co35) ∧ w'.cell? ⟨gb545, 2, none⟩ = some (.int .i64 t543)) (ds := [5]) #[false, false, false, false, false, false] (by kernel_rfl) rfl rfl ⟨(blk_cell BK537.out 0).trans rfl, (blk_cell BK537.out 1).trans rfl, (blk_cell BK537.out 2).trans rfl, (blk_cell BK545.out 0).trans rfl, (blk_cell BK545.out 1).trans rfl, (blk_cell BK545.out 2).trans rfl⟩ (fun hHeld => ?_)
         generalize w36.drew = w37 at HO_537003 HO_538001 HO542 BK536 BK537 BK545 HB hHeld ⊢
         refine take_ (i := 0) (N := some 60) (v := ?_) (a' := ?_) #[true, false, false, false, false, false] rfl rfl (by kernel_rfl) (fun _ _ _ h => h) (Or.inl ⟨by rfl, ?_⟩) hHeld ?_ ?_
         rotate_left
         ·
          rintro w' ⟨s0, s1, s2, s3, s4, s5⟩
          go_simp
          with_reducible rfl
         rotate_left
         ·
          simp only [Act.put, sa0, sa1, sa2, i64_w, i32_w]
          rfl
         refine take_ (i := 1) (N := some 61) (v := ?_) (a' := ?_) #[true, true, false, false, false, false] rfl rfl (by kernel_rfl) (fun _ _ _ h => h) (Or.inl ⟨by rfl, ?_⟩) hHeld ?_ ?_
         rotate_left
         ·
          rintro w' ⟨s0, s1, s2, s3, s4, s5⟩
          go_simp
          with_reducible rfl
         rotate_left
         ·
          simp only [Act.put, sa0, sa1, sa2, i64_w, i32_w]
          rfl
         refine take_ (i := 2) (N := some 62) (v := ?_) (a' := ?_) #[true, true, true, false, false, false] rfl rfl (by kernel_rfl) (fun _ _ _ h => h) (Or.inl ⟨by rfl, ?_⟩) hHeld ?_ ?_
         rotate_left
         ·
          rintro w' ⟨s0, s1, s2, s3, s4, s5⟩
          go_simp
          with_reducible rfl
         rotate_left
         ·
          simp only [Act.put, sa0, sa1, sa2, i64_w, i32_w]
          rfl
         refine one_ (i := 3) (N := some 63) #[true, true, true, true, false, false] rfl rfl (by kernel_rfl) (by decide) (fun K hK => ?_)
         refine goes_ Tryd.func10 (by kernel_rfl) rfl #[.agg #[.bool t539, .slice Ao35 t540.length co35, .int .i64 t543], .agg #[.bool t539, .slice Ao35 t540.length co35, .int .i64 t543]] (by rfl) rfl rfl ga ?_
         with_reducible refine (dyad_Num_Mul.calls k2 t539 _ _ t540 t543 t539 _ _ t540 t543 t546 t547 t550 _ ?side1 ?side2 ?side3 ?side4 ?side5 A25.out).mono ?_
         (case side1 => exact kvs HO542)
         (case side2 => exact (Kd.V_reads' HO542.out).2.1)
         (case side3 => exact kvs HO542)
         (case side4 => exact (Kd.V_reads' HO542.out).2.1)
         (case side5 => first | exact hT | exact TabW.drewN hT _ | exact TabW.drew hT | exact TabW.below hT bes)
         rintro e w38 ⟨v548, rfl, ho0, hb⟩
         refine ⟨_, rfl, ?_⟩
         refine ax8 (Kd.R_below (kr HO_537003) hb) (Kd.V_below (kv HO_538001) hb) (Kd.V_below (kv HO542) hb) (Kd.V_lower (Kd.V_mono (ok' := fun k_ => some k_ ≠ (.slice Ao14 t533.length co14 : Value).ownBlock ∧ k_ ≠ gb536 ∧ k_ ≠ gb537 ∧ k_ ≠ gb545) ho0 (fun k_ hk_ => ⟨(Kd.fresh' (Kd.R_lt (kr HO_537003)) k_ hk_), (fb BK536 k_ hk_), (fb BK537 k_ hk_), (fb BK545 k_ hk_)⟩)) (below_size bes)) (bb BK536 hb) (bb BK537 hb) (bb BK545 hb) (below_step bes hb) ?_
         clear HO_537003 HO_538001 HO542 BK536 BK537 BK545 HB
         intro HO_537003 HO_538001 HO542 HO549 BK536 BK537 BK545 HB
         (try clear hb)
         (try clear hb2)
         (try clear hk)
         (try clear hi)
         (try clear ho0)
         obtain ⟨Ao39, co39, eo39⟩ := Kd.V_slice HO_538001.out
         (first | subst eo39 | (injection eo39 with f1_ f2_ f3_; have f4_ := f1_.symm; have f5_ := f3_.symm; clear f1_ f2_ f3_; subst f4_; subst f5_))
         obtain ⟨Ao40, co40, eo40⟩ := Kd.V_slice HO549.out
         (first | subst eo40 | (injection eo40 with f1_ f2_ f3_; have f4_ := f1_.symm; have f5_ := f3_.symm; clear f1_ f2_ f3_; subst f4_; subst f5_))
         refine hK.out _ _ ⟨(blk_cell BK537.out 0).trans rfl, (blk_cell BK537.out 1).trans rfl, (blk_cell BK537.out 2).trans rfl, (blk_cell BK545.out 0).trans rfl, (blk_cell BK545.out 1).trans rfl, (blk_cell BK545.out 2).trans rfl⟩ (fun hHeld => ?_)
         clear hK K
         refine norm_ (a' := ?_) ?_ ?_
         rotate_left
         ·
          show Act.put _ (some 63) _ = _
          simp only [Act.put, sa0, sa1, sa2, i64_w, i32_w]
          rfl
         refine one_ (i := 4) (N := some 64) #[true, true, true, true, true, false] rfl rfl (by kernel_rfl) (by decide) (fun K hK => ?_)
         refine goes_ Tryd.func9 (by kernel_rfl) rfl #[.agg #[.bool x538000_2, .slice Ao39 x538001_2.length co39, .int .i64 x538002_2], .agg #[.bool t546, .slice Ao40 t547.length co40, .int .i64 t550]] (by rfl) rfl rfl ga ?_
         with_reducible refine (dyad_Num_Add.calls k2 x538000_2 (fun k_ => (some k_ ≠ (.slice Ao14 t533.length co14 : Value).ownBlock ∧ (k_ ≠ gb536 ∧ (k_ ≠ gb537 ∧ k_ ≠ gb545)))) _ _ x538001_2 x538002_2 t546 (fun k_ => (some k_ ≠ (.slice Ao14 t533.length co14 : Value).ownBlock ∧ (k_ ≠ gb536 ∧ (k_ ≠ gb537 ∧ k_ ≠ gb545)))) _ _ t547 t550 t551 t552 t555 _ ?side1 ?side2 ?side3 A26.out).mono ?_
         (case side1 => exact HO_538001.out)
         (case side2 => exact HO549.out)
         (case side3 => first | exact hT | exact TabW.drewN hT _ | exact TabW.drew hT | exact TabW.below hT bes)
         rintro e w41 ⟨v553, rfl, ho0, hb⟩
         refine ⟨_, rfl, ?_⟩
         refine ax9 (Kd.R_below (kr HO_537003) hb) (Kd.V_below (kv HO_538001) hb) (Kd.V_below (kv HO542) hb) (Kd.V_below (kv HO549) hb) (Kd.V_lower (Kd.V_mono (ok' := fun k_ => some k_ ≠ (.slice Ao14 t533.length co14 : Value).ownBlock ∧ k_ ≠ gb536 ∧ k_ ≠ gb537 ∧ k_ ≠ gb545) ho0 (fun k_ hk_ => ⟨Or.elim hk_ (fun hs_ => Or.elim hs_ (fun hs_ => hs_.1) (fun hs_ => hs_.1)) (fun hn_ => (Kd.fresh' (Kd.R_lt (kr HO_537003)) k_ hn_)), Or.elim hk_ (fun hs_ => Or.elim hs_ (fun hs_ => hs_.2.1) (fun hs_ => hs_.2.1)) (fun hn_ => (fb BK536 k_ hn_)), Or.elim hk_ (fun hs_ => Or.elim hs_ (fun hs_ => hs_.2.2.1) (fun hs_ => hs_.2.2.1)) (fun hn_ => (fb BK537 k_ hn_)), Or.elim hk_ (fun hs_ => Or.elim hs_ (fun hs_ => hs_.2.2.2) (fun hs_ => hs_.2.2.2)) (fun hn_ => (fb BK545 k_ hn_))⟩)) (below_size bes)) (bb BK536 hb) (bb BK537 hb) (bb BK545 hb) (below_step bes hb) ?_
         clear HO_537003 HO_538001 HO542 HO549 BK536 BK537 BK545 HB
         intro HO_537003 HO_538001 HO542 HO549 HO554 BK536 BK537 BK545 HB
         (try clear hb)
         (try clear hb2)
         (try clear hk)
         (try clear hi)
         (try clear ho0)
         obtain ⟨Ao43, co43, eo43⟩ := Kd.V_slice HO554.out
         (first | subst eo43 | (injection eo43 with f1_ f2_ f3_; have f4_ := f1_.symm; have f5_ := f3_.symm; clear f1_ f2_ f3_; subst f4_; subst f5_))
         refine hK.out _ _ ⟨(blk_cell BK537.out 0).trans rfl, (blk_cell BK537.out 1).trans rfl, (blk_cell BK537.out 2).trans rfl, (blk_cell BK545.out 0).trans rfl, (blk_cell BK545.out 1).trans rfl, (blk_cell BK545.out 2).trans rfl⟩ (fun hHeld => ?_)
         clear hK K
         refine norm_ (a' := ?_) ?_ ?_
         rotate_left
         ·
          show Act.put _ (some 64) _ = _
          simp only [Act.put, sa0, sa1, sa2, i64_w, i32_w]
          rfl
         refine last_ (i := 5) (N := none) #[true, true, true, true, true, true] rfl rfl (by kernel_rfl) (by decide) (fun K hK => ?_)
         have hs42 : w41.cell? ⟨gb537, 0, none⟩ = some (.bool x538000_2) := (blk_cell BK537.out 0).trans rfl
         have hfs42 := blk_frozen BK537.out 0
         have hns42_0 := NB536_537.out
         have hns42_2 := NB545_537.out
         have hms42_0 := NB537_536.out
         have hms42_2 := NB537_545.out
         have hs44 : w41.cell? ⟨gb537, 1, none⟩ = some (.slice Ao39 x538001_2.length co39) := (blk_cell BK537.out 1).trans rfl
         have hfs44 := blk_frozen BK537.out 1
         have hns44_0 := NB536_537.out
         have hns44_2 := NB545_537.out
         have hms44_0 := NB537_536.out
         have hms44_2 := NB537_545.out
         have hs45 : w41.cell? ⟨gb537, 2, none⟩ = some (.int .i64 x538002_2) := (blk_cell BK537.out 2).trans rfl
         have hfs45 := blk_frozen BK537.out 2
         have hns45_0 := NB536_537.out
         have hns45_2 := NB545_537.out
         have hms45_0 := NB537_536.out
         have hms45_2 := NB537_545.out
         refine skip_ (w1 := ?_) (by rfl) rfl ?_ ?_
         rotate_left
         ·
          go_simp
          rfl
         refine hK.out _ _ ?_
         clear hK K
         refine done_ (by kernel_rfl) ?_
         try go_wp2
         go_roundg k2
         case measure => have := HK1.out; have := HK2.out; omega
         case rel => exact ⟨(t544), (wrap64 (x13_2 + 1)), (t551), (t552), (t555), (.slice Ao43 t552.length co43), (by first | rfl | (simp; done) | (simp [*]; done)), (by first | rfl | (simp; done) | (simp [*]; done)), H', ⟨by have := HK1.out; have := HK2.out; omega⟩, ⟨by (with_reducible repeat (first | apply Kd.R_alloc | apply Kd.R_drewN | apply Kd.R_drew)); exact Kd.R_mono (Kd.R_far (p := ⟨gb537, 2, none⟩) (Kd.R_far (p := ⟨gb537, 1, none⟩) (Kd.R_far (p := ⟨gb537, 0, none⟩) (Kd.R_types HO_537003.out BK537.out (by decide)) (fun _ hk => hk.2) (.bool t551)) (fun _ hk => hk.2) (.slice Ao43 t552.length co43)) (fun _ hk => hk.2) (.int .i64 t555)) (fun _ hk => trivial)⟩, ⟨by (with_reducible repeat (first | apply Kd.V_alloc | apply Kd.V_drewN | apply Kd.V_drew)); exact Kd.V_mono (Kd.V_far (p := ⟨gb537, 2, none⟩) (Kd.V_far (p := ⟨gb537, 1, none⟩) (Kd.V_far (p := ⟨gb537, 0, none⟩) (Kd.V_mono HO554.out (fun k_ hk => (⟨hk, hk.2.2.1⟩ : _ ∧ k_ ≠ gb537))) (fun _ hk => hk.2) (.bool t551)) (fun _ hk => hk.2) (.slice Ao43 t552.length co43)) (fun _ hk => hk.2) (.int .i64 t555)) (fun _ hk => ⟨hk.1.1, ⟨hk.1.2.1, hk.1.2.2.1⟩⟩)⟩, ⟨by (with_reducible repeat (first | refine blk_drewN ?_ _ | refine blk_drew ?_ | refine blk_alloc ?_ _)); refine blk_far ?_ NB536_537.out _; (with_reducible repeat (first | refine blk_drewN ?_ _ | refine blk_drew ?_ | refine blk_alloc ?_ _)); refine blk_far ?_ NB536_537.out _; (with_reducible repeat (first | refine blk_drewN ?_ _ | refine blk_drew ?_ | refine blk_alloc ?_ _)); refine blk_far ?_ NB536_537.out _; (with_reducible repeat (first | refine blk_drewN ?_ _ | refine blk_drew ?_ | refine blk_alloc ?_ _)); exact BK536.out⟩, ⟨by (with_reducible repeat (first | refine blk_drewN ?_ _ | refine blk_drew ?_ | refine blk_alloc ?_ _)); refine blk_put (cs := #[.bool t551, .slice Ao43 t552.length co43, .int .i64 x538002_2]) ?_ 2 _ rfl; (with_reducible repeat (first | refine blk_drewN ?_ _ | refine blk_drew ?_ | refine blk_alloc ?_ _)); refine blk_put (cs := #[.bool t551, .slice Ao39 x538001_2.length co39, .int .i64 x538002_2]) ?_ 1 _ rfl; (with_reducible repeat (first | refine blk_drewN ?_ _ | refine blk_drew ?_ | refine blk_alloc ?_ _)); refine blk_put (cs := #[.bool x538000_2, .slice Ao39 x538001_2.length co39, .int .i64 x538002_2]) ?_ 0 _ rfl; (with_reducible repeat (first | refine blk_drewN ?_ _ | refine blk_drew ?_ | refine blk_alloc ?_ _)); exact BK537.out⟩, ⟨bes⟩⟩
        ·
         replace c24 := Bool.eq_false_iff.mpr c24
         subst c24
         rw [if_neg (show ¬ (false = true) by decide)] at H
         obtain ⟨⟨t556, t557, t560⟩, A460, H⟩ := Option.bind_eq_some_iff.mp H
         (try dsimp -simprocs only at H)
         have A46 := Aside0.mk A460
         clear A460
         obtain ⟨⟨t561, t562, t565⟩, A470, H⟩ := Option.bind_eq_some_iff.mp H
         (try dsimp -simprocs only at H)
         have A47 := Aside0.mk A470
         clear A470
         have H' := Aside0.mk H
         clear H
         have hnb48 := NB536_537.out
         have hnc48 := NB537_536.out
         have hcz49_0 := bc BK536 0 rfl
         have hcz49_1 := bc BK536 1 rfl
         have hcz49_2 := bc BK536 2 rfl
         have hcz49_3 := bc BK536 3 rfl
         have hfz49_0 := blk_frozen BK536.out 0
         have hfz49_1 := blk_frozen BK536.out 1
         have hfz49_2 := blk_frozen BK536.out 2
         have hfz49_3 := blk_frozen BK536.out 3
         try go_wp2_with (first | ((with_reducible refine gate_callee (f := 8) rfl ?_); refine goesL_ (some 52) rfl rfl Tryd.func8 (by kernel_rfl) rfl #[.agg #[.int .i64 t530, .int .i64 t531, .int .i64 t532, .slice Ao14 t533.length co14], .int .i64 x12_1, .int .i64 x13_2] rfl ga ?_; (with_reducible refine (mat_Matrix_At.calls t530 t531 t532 _ _ t533 x12_1 x13_2 t538 _ ?side1 ?side2 A22.out).mono ?_); (case side1 => exact ks HO_537003); (case side2 => exact (Kd.R_reads' HO_537003.out).2.1); rintro e w50 ⟨rfl, hb⟩; refine ⟨_, rfl, ?_⟩; refine ax5 (Kd.R_below (kr HO_537003) hb) (Kd.V_below (kv HO_538001) hb) (bb BK536 hb) (bb BK537 hb) (below_step bes hb) ?_; clear HO_537003; clear HO_538001; clear BK536; clear BK537; clear HB; intro HO_537003 HO_538001 BK536 BK537 HB; (try clear hb)) | ((with_reducible refine gate_callee (f := 7) rfl ?_); refine goesL_ (some 53) rfl rfl Tryd.func7 (by kernel_rfl) rfl #[.int .u64 t538] rfl ga ?_; (with_reducible refine (dyad_Of.calls k2 t538 t539 t540 t543 t544 _ ?side1 A23.out).mono ?_); (case side1 => first | exact hT | exact TabW.drewN hT _ | exact TabW.drew hT | exact TabW.below hT bes); rintro e w51 ⟨v541, rfl, ho0, hb⟩; refine ⟨_, rfl, ?_⟩; refine ax6 (Kd.R_below (kr HO_537003) hb) (Kd.V_below (kv HO_538001) hb) (Kd.V_lower (Kd.V_mono (ok' := fun k_ => some k_ ≠ (.slice Ao14 t533.length co14 : Value).ownBlock ∧ k_ ≠ gb536 ∧ k_ ≠ gb537) ho0 (fun k_ hk_ => ⟨(Kd.fresh' (Kd.R_lt (kr HO_537003)) k_ hk_), (fb BK536 k_ hk_), (fb BK537 k_ hk_)⟩)) (below_size bes)) (bb BK536 hb) (bb BK537 hb) (below_step bes hb) ?_; clear HO_537003; clear HO_538001; clear BK536; clear BK537; clear HB; intro HO_537003 HO_538001 HO542 BK536 BK537 HB; (try clear hb); (try clear ho0)) | ((with_reducible refine gate_dst (N := 14) rfl ?_); refine gbox (N := 14) (cs := #[.bool false, .slice none 0 0, .int .i64 0]) (t := 29) ?_; intro gb545 hg w52 hbox hb; refine ax13 (Kd.R_below (kr HO_537003) hb) (Kd.V_below (Kd.V_elderB (kv HO_538001) gb545 (Nat.le_of_eq hg.symm)) hb) (Kd.V_below (Kd.V_elderB (kv HO542) gb545 (Nat.le_of_eq hg.symm)) hb) (bb BK536 hb) (bb BK537 hb) (below_step bes hb) hbox ((ge hg : w.heap.size ≤ gb545)) ((ge hg : w.heap.size ≤ gb545)) (nl hg BK536) (ng hg BK536) (nl hg BK537) (ng hg BK537) ?_; clear HO_537003; clear HO_538001; clear HO542; clear BK536; clear BK537; clear HB; intro HO_537003 HO_538001 HO542 BK536 BK537 HB BK545 GW545 GE545 NB536_545 NB545_536 NB537_545 NB545_537; clear hb hbox hg; have hnb53 := NB545_536.out; have hnc53 := NB536_545.out; have hnb54 := NB545_537.out; have hnc54 := NB537_545.out; have hcz55_0 := bc BK545 0 rfl; have hcz55_1 := bc BK545 1 rfl; have hcz55_2 := bc BK545 2 rfl; have hfz55_0 := blk_frozen BK545.out 0; have hfz55_1 := blk_frozen BK545.out 1; have hfz55_2 := blk_frozen BK545.out 2; obtain ⟨Ao56, co56, eo56⟩ := Kd.V_slice HO542.out; subst eo56))
         have n0_ : Aside0 (Kd.R (Kd.int .u64) 32 (((w52.setCell ⟨gb545, 0, none⟩ (.bool t539)).setCell ⟨gb545, 1, none⟩ (.slice Ao56 t540.length co56)).setCell ⟨gb545, 2, none⟩ (.int .i64 t543)) w.heap.size (fun _ => True) (.slice Ao14 t533.length co14) t533) := ⟨by (with_reducible repeat (first | apply Kd.R_alloc | apply Kd.R_drewN | apply Kd.R_drew)); exact Kd.R_mono (Kd.R_far (p := ⟨gb545, 2, none⟩) (Kd.R_far (p := ⟨gb545, 1, none⟩) (Kd.R_far (p := ⟨gb545, 0, none⟩) (Kd.R_types HO_537003.out BK545.out (by decide)) (fun _ hk => hk.2) (.bool t539)) (fun _ hk => hk.2) (.slice Ao56 t540.length co56)) (fun _ hk => hk.2) (.int .i64 t543)) (fun _ hk => trivial)⟩
         have n1_ : Aside0 (Kd.V (Kd.int .u32) 56 (((w52.setCell ⟨gb545, 0, none⟩ (.bool t539)).setCell ⟨gb545, 1, none⟩ (.slice Ao56 t540.length co56)).setCell ⟨gb545, 2, none⟩ (.int .i64 t543)) w.heap.size (fun k_ => some k_ ≠ (.slice Ao14 t533.length co14 : Value).ownBlock ∧ k_ ≠ gb536 ∧ k_ ≠ gb537 ∧ k_ ≠ gb545) u538001 x538001_2) := ⟨by (with_reducible repeat (first | apply Kd.V_alloc | apply Kd.V_drewN | apply Kd.V_drew)); exact Kd.V_mono (Kd.V_far (p := ⟨gb545, 2, none⟩) (Kd.V_far (p := ⟨gb545, 1, none⟩) (Kd.V_far (p := ⟨gb545, 0, none⟩) (Kd.V_mono HO_538001.out (fun k_ hk => (⟨hk, hk.2⟩ : _ ∧ k_ ≠ gb545))) (fun _ hk => hk.2) (.bool t539)) (fun _ hk => hk.2) (.slice Ao56 t540.length co56)) (fun _ hk => hk.2) (.int .i64 t543)) (fun _ hk => ⟨hk.1.1.1, ⟨hk.1.1.2.1, ⟨hk.1.1.2.2, hk.1.2⟩⟩⟩)⟩
         have n2_ : Aside0 (Kd.V (Kd.int .u32) 56 (((w52.setCell ⟨gb545, 0, none⟩ (.bool t539)).setCell ⟨gb545, 1, none⟩ (.slice Ao56 t540.length co56)).setCell ⟨gb545, 2, none⟩ (.int .i64 t543)) w.heap.size (fun k_ => some k_ ≠ (.slice Ao14 t533.length co14 : Value).ownBlock ∧ k_ ≠ gb536 ∧ k_ ≠ gb537 ∧ k_ ≠ gb545) (.slice Ao56 t540.length co56) t540) := ⟨by (with_reducible repeat (first | apply Kd.V_alloc | apply Kd.V_drewN | apply Kd.V_drew)); exact Kd.V_mono (Kd.V_far (p := ⟨gb545, 2, none⟩) (Kd.V_far (p := ⟨gb545, 1, none⟩) (Kd.V_far (p := ⟨gb545, 0, none⟩) (Kd.V_mono HO542.out (fun k_ hk => (⟨hk, hk.2⟩ : _ ∧ k_ ≠ gb545))) (fun _ hk => hk.2) (.bool t539)) (fun _ hk => hk.2) (.slice Ao56 t540.length co56)) (fun _ hk => hk.2) (.int .i64 t543)) (fun _ hk => ⟨hk.1.1.1, ⟨hk.1.1.2.1, ⟨hk.1.1.2.2, hk.1.2⟩⟩⟩)⟩
         have n3_ : Aside0 ((((w52.setCell ⟨gb545, 0, none⟩ (.bool t539)).setCell ⟨gb545, 1, none⟩ (.slice Ao56 t540.length co56)).setCell ⟨gb545, 2, none⟩ (.int .i64 t543)).heap[gb536]? = some (.cells #[.int .i64 t530, .int .i64 t531, .int .i64 t532, .slice Ao14 t533.length co14] 25 (0, 0))) := ⟨by (with_reducible repeat (first | refine blk_drewN ?_ _ | refine blk_drew ?_ | refine blk_alloc ?_ _)); refine blk_far ?_ NB536_545.out _; (with_reducible repeat (first | refine blk_drewN ?_ _ | refine blk_drew ?_ | refine blk_alloc ?_ _)); refine blk_far ?_ NB536_545.out _; (with_reducible repeat (first | refine blk_drewN ?_ _ | refine blk_drew ?_ | refine blk_alloc ?_ _)); refine blk_far ?_ NB536_545.out _; (with_reducible repeat (first | refine blk_drewN ?_ _ | refine blk_drew ?_ | refine blk_alloc ?_ _)); exact BK536.out⟩
         have n4_ : Aside0 ((((w52.setCell ⟨gb545, 0, none⟩ (.bool t539)).setCell ⟨gb545, 1, none⟩ (.slice Ao56 t540.length co56)).setCell ⟨gb545, 2, none⟩ (.int .i64 t543)).heap[gb537]? = some (.cells #[.bool x538000_2, u538001, .int .i64 x538002_2] 29 (0, 0))) := ⟨by (with_reducible repeat (first | refine blk_drewN ?_ _ | refine blk_drew ?_ | refine blk_alloc ?_ _)); refine blk_far ?_ NB537_545.out _; (with_reducible repeat (first | refine blk_drewN ?_ _ | refine blk_drew ?_ | refine blk_alloc ?_ _)); refine blk_far ?_ NB537_545.out _; (with_reducible repeat (first | refine blk_drewN ?_ _ | refine blk_drew ?_ | refine blk_alloc ?_ _)); refine blk_far ?_ NB537_545.out _; (with_reducible repeat (first | refine blk_drewN ?_ _ | refine blk_drew ?_ | refine blk_alloc ?_ _)); exact BK537.out⟩
         have n5_ : Aside0 ((((w52.setCell ⟨gb545, 0, none⟩ (.bool t539)).setCell ⟨gb545, 1, none⟩ (.slice Ao56 t540.length co56)).setCell ⟨gb545, 2, none⟩ (.int .i64 t543)).heap[gb545]? = some (.cells #[.bool t539, .slice Ao56 t540.length co56, .int .i64 t543] 29 (0, 0))) := ⟨by (with_reducible repeat (first | refine blk_drewN ?_ _ | refine blk_drew ?_ | refine blk_alloc ?_ _)); refine blk_put (cs := #[.bool t539, .slice Ao56 t540.length co56, .int .i64 0]) ?_ 2 _ rfl; (with_reducible repeat (first | refine blk_drewN ?_ _ | refine blk_drew ?_ | refine blk_alloc ?_ _)); refine blk_put (cs := #[.bool t539, .slice none 0 0, .int .i64 0]) ?_ 1 _ rfl; (with_reducible repeat (first | refine blk_drewN ?_ _ | refine blk_drew ?_ | refine blk_alloc ?_ _)); refine blk_put (cs := #[.bool false, .slice none 0 0, .int .i64 0]) ?_ 0 _ rfl; (with_reducible repeat (first | refine blk_drewN ?_ _ | refine blk_drew ?_ | refine blk_alloc ?_ _)); exact BK545.out⟩
         have n6_ : Aside0 (Below w.heap.size w (((w52.setCell ⟨gb545, 0, none⟩ (.bool t539)).setCell ⟨gb545, 1, none⟩ (.slice Ao56 t540.length co56)).setCell ⟨gb545, 2, none⟩ (.int .i64 t543))) := ⟨bes⟩
         (try clear HO_537003)
         (try clear HO_538001)
         (try clear HO542)
         (try clear BK536)
         (try clear BK537)
         (try clear BK545)
         (try clear HB)
         generalize (((w52.setCell ⟨gb545, 0, none⟩ (.bool t539)).setCell ⟨gb545, 1, none⟩ (.slice Ao56 t540.length co56)).setCell ⟨gb545, 2, none⟩ (.int .i64 t543)) = w57 at n0_ n1_ n2_ n3_ n4_ n5_ n6_ ⊢
         have HO_537003 := n0_
         have HO_538001 := n1_
         have HO542 := n2_
         have BK536 := n3_
         have BK537 := n4_
         have BK545 := n5_
         have HB := n6_
         clear n0_ n1_ n2_ n3_ n4_ n5_ n6_
         refine ax7 (Kd.R_drew HO_537003.out) (Kd.V_drew HO_538001.out) (Kd.V_drew HO542.out) (blk_drew BK536.out) (blk_drew BK537.out) (blk_drew BK545.out) (below_drew1 HB.out) ?_
         clear HO_537003 HO_538001 HO542 BK536 BK537 BK545 HB
         intro HO_537003 HO_538001 HO542 BK536 BK537 BK545 HB
         refine start_ (n := 6) (S := fun w' => w'.cell? ⟨gb537, 0, none⟩ = some (.bool x538000_2) ∧ w'.cell? ⟨gb537, 1, none⟩ = some (u538001) ∧ w'.cell? ⟨gb537, 2, none⟩ = some (.int .i64 x538002_2) ∧ w'.cell? ⟨gb545, 0, none⟩ = some (.bool t539) ∧ w'.cell? ⟨gb545, 1, none⟩ = some (.slice Ao56 t540.length co56) ∧ w'.cell? ⟨gb545, 2, none⟩ = some (.int .i64 t543)) (ds := [5]) #[false, false, false, false, false, false] (by kernel_rfl) rfl rfl ⟨(blk_cell BK537.out 0).trans rfl, (blk_cell BK537.out 1).trans rfl, (blk_cell BK537.out 2).trans rfl, (blk_cell BK545.out 0).trans rfl, (blk_cell BK545.out 1).trans rfl, (blk_cell BK545.out 2).trans rfl⟩ (fun hHeld => ?_)
         generalize w57.drew = w58 at HO_537003 HO_538001 HO542 BK536 BK537 BK545 HB hHeld ⊢
         refine take_ (i := 0) (N := some 60) (v := ?_) (a' := ?_) #[true, false, false, false, false, false] rfl rfl (by kernel_rfl) (fun _ _ _ h => h) (Or.inl ⟨by rfl, ?_⟩) hHeld ?_ ?_
         rotate_left
         ·
          rintro w' ⟨s0, s1, s2, s3, s4, s5⟩
          go_simp
          with_reducible rfl
         rotate_left
         ·
          simp only [Act.put, sa0, sa1, sa2, i64_w, i32_w]
          rfl
         refine take_ (i := 1) (N := some 61) (v := ?_) (a' := ?_) #[true, true, false, false, false, false] rfl rfl (by kernel_rfl) (fun _ _ _ h => h) (Or.inl ⟨by rfl, ?_⟩) hHeld ?_ ?_
         rotate_left
         ·
          rintro w' ⟨s0, s1, s2, s3, s4, s5⟩
          go_simp
          with_reducible rfl
         rotate_left
         ·
          simp only [Act.put, sa0, sa1, sa2, i64_w, i32_w]
          rfl
         refine take_ (i := 2) (N := some 62) (v := ?_) (a' := ?_) #[true, true, true, false, false, false] rfl rfl (by kernel_rfl) (fun _ _ _ h => h) (Or.inl ⟨by rfl, ?_⟩) hHeld ?_ ?_
         rotate_left
         ·
          rintro w' ⟨s0, s1, s2, s3, s4, s5⟩
          go_simp
          with_reducible rfl
         rotate_left
         ·
          simp only [Act.put, sa0, sa1, sa2, i64_w, i32_w]
          rfl
         refine one_ (i := 3) (N := some 63) #[true, true, true, true, false, false] rfl rfl (by kernel_rfl) (by decide) (fun K hK => ?_)
         refine goes_ Tryd.func10 (by kernel_rfl) rfl #[.agg #[.bool t539, .slice Ao56 t540.length co56, .int .i64 t543], .agg #[.bool t539, .slice Ao56 t540.length co56, .int .i64 t543]] (by rfl) rfl rfl ga ?_
         with_reducible refine (dyad_Num_Mul.calls k2 t539 _ _ t540 t543 t539 _ _ t540 t543 t556 t557 t560 _ ?side1 ?side2 ?side3 ?side4 ?side5 A46.out).mono ?_
         (case side1 => exact kvs HO542)
         (case side2 => exact (Kd.V_reads' HO542.out).2.1)
         (case side3 => exact kvs HO542)
         (case side4 => exact (Kd.V_reads' HO542.out).2.1)
         (case side5 => first | exact hT | exact TabW.drewN hT _ | exact TabW.drew hT | exact TabW.below hT bes)
         rintro e w59 ⟨v558, rfl, ho0, hb⟩
         refine ⟨_, rfl, ?_⟩
         refine ax8 (Kd.R_below (kr HO_537003) hb) (Kd.V_below (kv HO_538001) hb) (Kd.V_below (kv HO542) hb) (Kd.V_lower (Kd.V_mono (ok' := fun k_ => some k_ ≠ (.slice Ao14 t533.length co14 : Value).ownBlock ∧ k_ ≠ gb536 ∧ k_ ≠ gb537 ∧ k_ ≠ gb545) ho0 (fun k_ hk_ => ⟨(Kd.fresh' (Kd.R_lt (kr HO_537003)) k_ hk_), (fb BK536 k_ hk_), (fb BK537 k_ hk_), (fb BK545 k_ hk_)⟩)) (below_size bes)) (bb BK536 hb) (bb BK537 hb) (bb BK545 hb) (below_step bes hb) ?_
         clear HO_537003 HO_538001 HO542 BK536 BK537 BK545 HB
         intro HO_537003 HO_538001 HO542 HO559 BK536 BK537 BK545 HB
         (try clear hb)
         (try clear hb2)
         (try clear hk)
         (try clear hi)
         (try clear ho0)
         obtain ⟨Ao60, co60, eo60⟩ := Kd.V_slice HO_538001.out
         (first | subst eo60 | (injection eo60 with f1_ f2_ f3_; have f4_ := f1_.symm; have f5_ := f3_.symm; clear f1_ f2_ f3_; subst f4_; subst f5_))
         obtain ⟨Ao61, co61, eo61⟩ := Kd.V_slice HO559.out
         (first | subst eo61 | (injection eo61 with f1_ f2_ f3_; have f4_ := f1_.symm; have f5_ := f3_.symm; clear f1_ f2_ f3_; subst f4_; subst f5_))
         refine hK.out _ _ ⟨(blk_cell BK537.out 0).trans rfl, (blk_cell BK537.out 1).trans rfl, (blk_cell BK537.out 2).trans rfl, (blk_cell BK545.out 0).trans rfl, (blk_cell BK545.out 1).trans rfl, (blk_cell BK545.out 2).trans rfl⟩ (fun hHeld => ?_)
         clear hK K
         refine norm_ (a' := ?_) ?_ ?_
         rotate_left
         ·
          show Act.put _ (some 63) _ = _
          simp only [Act.put, sa0, sa1, sa2, i64_w, i32_w]
          rfl
         refine one_ (i := 4) (N := some 64) #[true, true, true, true, true, false] rfl rfl (by kernel_rfl) (by decide) (fun K hK => ?_)
         refine goes_ Tryd.func9 (by kernel_rfl) rfl #[.agg #[.bool x538000_2, .slice Ao60 x538001_2.length co60, .int .i64 x538002_2], .agg #[.bool t556, .slice Ao61 t557.length co61, .int .i64 t560]] (by rfl) rfl rfl ga ?_
         with_reducible refine (dyad_Num_Add.calls k2 x538000_2 (fun k_ => (some k_ ≠ (.slice Ao14 t533.length co14 : Value).ownBlock ∧ (k_ ≠ gb536 ∧ (k_ ≠ gb537 ∧ k_ ≠ gb545)))) _ _ x538001_2 x538002_2 t556 (fun k_ => (some k_ ≠ (.slice Ao14 t533.length co14 : Value).ownBlock ∧ (k_ ≠ gb536 ∧ (k_ ≠ gb537 ∧ k_ ≠ gb545)))) _ _ t557 t560 t561 t562 t565 _ ?side1 ?side2 ?side3 A47.out).mono ?_
         (case side1 => exact HO_538001.out)
         (case side2 => exact HO559.out)
         (case side3 => first | exact hT | exact TabW.drewN hT _ | exact TabW.drew hT | exact TabW.below hT bes)
         rintro e w62 ⟨v563, rfl, ho0, hb⟩
         refine ⟨_, rfl, ?_⟩
         refine ax9 (Kd.R_below (kr HO_537003) hb) (Kd.V_below (kv HO_538001) hb) (Kd.V_below (kv HO542) hb) (Kd.V_below (kv HO559) hb) (Kd.V_lower (Kd.V_mono (ok' := fun k_ => some k_ ≠ (.slice Ao14 t533.length co14 : Value).ownBlock ∧ k_ ≠ gb536 ∧ k_ ≠ gb537 ∧ k_ ≠ gb545) ho0 (fun k_ hk_ => ⟨Or.elim hk_ (fun hs_ => Or.elim hs_ (fun hs_ => hs_.1) (fun hs_ => hs_.1)) (fun hn_ => (Kd.fresh' (Kd.R_lt (kr HO_537003)) k_ hn_)), Or.elim hk_ (fun hs_ => Or.elim hs_ (fun hs_ => hs_.2.1) (fun hs_ => hs_.2.1)) (fun hn_ => (fb BK536 k_ hn_)), Or.elim hk_ (fun hs_ => Or.elim hs_ (fun hs_ => hs_.2.2.1) (fun hs_ => hs_.2.2.1)) (fun hn_ => (fb BK537 k_ hn_)), Or.elim hk_ (fun hs_ => Or.elim hs_ (fun hs_ => hs_.2.2.2) (fun hs_ => hs_.2.2.2)) (fun hn_ => (fb BK545 k_ hn_))⟩)) (below_size bes)) (bb BK536 hb) (bb BK537 hb) (bb BK545 hb) (below_step bes hb) ?_
         clear HO_537003 HO_538001 HO542 HO559 BK536 BK537 BK545 HB
         intro HO_537003 HO_538001 HO542 HO559 HO564 BK536 BK537 BK545 HB
         (try clear hb)
         (try clear hb2)
         (try clear hk)
         (try clear hi)
         (try clear ho0)
         obtain ⟨Ao64, co64, eo64⟩ := Kd.V_slice HO564.out
         (first | subst eo64 | (injection eo64 with f1_ f2_ f3_; have f4_ := f1_.symm; have f5_ := f3_.symm; clear f1_ f2_ f3_; subst f4_; subst f5_))
         refine hK.out _ _ ⟨(blk_cell BK537.out 0).trans rfl, (blk_cell BK537.out 1).trans rfl, (blk_cell BK537.out 2).trans rfl, (blk_cell BK545.out 0).trans rfl, (blk_cell BK545.out 1).trans rfl, (blk_cell BK545.out 2).trans rfl⟩ (fun hHeld => ?_)
         clear hK K
         refine norm_ (a' := ?_) ?_ ?_
         rotate_left
         ·
          show Act.put _ (some 64) _ = _
          simp only [Act.put, sa0, sa1, sa2, i64_w, i32_w]
          rfl
         refine last_ (i := 5) (N := none) #[true, true, true, true, true, true] rfl rfl (by kernel_rfl) (by decide) (fun K hK => ?_)
         have hs63 : w62.cell? ⟨gb537, 0, none⟩ = some (.bool x538000_2) := (blk_cell BK537.out 0).trans rfl
         have hfs63 := blk_frozen BK537.out 0
         have hns63_0 := NB536_537.out
         have hns63_2 := NB545_537.out
         have hms63_0 := NB537_536.out
         have hms63_2 := NB537_545.out
         have hs65 : w62.cell? ⟨gb537, 1, none⟩ = some (.slice Ao60 x538001_2.length co60) := (blk_cell BK537.out 1).trans rfl
         have hfs65 := blk_frozen BK537.out 1
         have hns65_0 := NB536_537.out
         have hns65_2 := NB545_537.out
         have hms65_0 := NB537_536.out
         have hms65_2 := NB537_545.out
         have hs66 : w62.cell? ⟨gb537, 2, none⟩ = some (.int .i64 x538002_2) := (blk_cell BK537.out 2).trans rfl
         have hfs66 := blk_frozen BK537.out 2
         have hns66_0 := NB536_537.out
         have hns66_2 := NB545_537.out
         have hms66_0 := NB537_536.out
         have hms66_2 := NB537_545.out
         refine skip_ (w1 := ?_) (by rfl) rfl ?_ ?_
         rotate_left
         ·
          go_simp
          rfl
         refine hK.out _ _ ?_
         clear hK K
         refine done_ (by kernel_rfl) ?_
         try go_wp2
         go_roundg k2
         case measure => have := HK1.out; have := HK2.out; omega
         case rel => exact ⟨(false), (wrap64 (x13_2 + 1)), (t561), (t562), (t565), (.slice Ao64 t562.length co64), (by first | rfl | (simp; done) | (simp [*]; done)), (by first | rfl | (simp; done) | (simp [*]; done)), H', ⟨by have := HK1.out; have := HK2.out; omega⟩, ⟨by (with_reducible repeat (first | apply Kd.R_alloc | apply Kd.R_drewN | apply Kd.R_drew)); exact Kd.R_mono (Kd.R_far (p := ⟨gb537, 2, none⟩) (Kd.R_far (p := ⟨gb537, 1, none⟩) (Kd.R_far (p := ⟨gb537, 0, none⟩) (Kd.R_types HO_537003.out BK537.out (by decide)) (fun _ hk => hk.2) (.bool t561)) (fun _ hk => hk.2) (.slice Ao64 t562.length co64)) (fun _ hk => hk.2) (.int .i64 t565)) (fun _ hk => trivial)⟩, ⟨by (with_reducible repeat (first | apply Kd.V_alloc | apply Kd.V_drewN | apply Kd.V_drew)); exact Kd.V_mono (Kd.V_far (p := ⟨gb537, 2, none⟩) (Kd.V_far (p := ⟨gb537, 1, none⟩) (Kd.V_far (p := ⟨gb537, 0, none⟩) (Kd.V_mono HO564.out (fun k_ hk => (⟨hk, hk.2.2.1⟩ : _ ∧ k_ ≠ gb537))) (fun _ hk => hk.2) (.bool t561)) (fun _ hk => hk.2) (.slice Ao64 t562.length co64)) (fun _ hk => hk.2) (.int .i64 t565)) (fun _ hk => ⟨hk.1.1, ⟨hk.1.2.1, hk.1.2.2.1⟩⟩)⟩, ⟨by (with_reducible repeat (first | refine blk_drewN ?_ _ | refine blk_drew ?_ | refine blk_alloc ?_ _)); refine blk_far ?_ NB536_537.out _; (with_reducible repeat (first | refine blk_drewN ?_ _ | refine blk_drew ?_ | refine blk_alloc ?_ _)); refine blk_far ?_ NB536_537.out _; (with_reducible repeat (first | refine blk_drewN ?_ _ | refine blk_drew ?_ | refine blk_alloc ?_ _)); refine blk_far ?_ NB536_537.out _; (with_reducible repeat (first | refine blk_drewN ?_ _ | refine blk_drew ?_ | refine blk_alloc ?_ _)); exact BK536.out⟩, ⟨by (with_reducible repeat (first | refine blk_drewN ?_ _ | refine blk_drew ?_ | refine blk_alloc ?_ _)); refine blk_put (cs := #[.bool t561, .slice Ao64 t562.length co64, .int .i64 x538002_2]) ?_ 2 _ rfl; (with_reducible repeat (first | refine blk_drewN ?_ _ | refine blk_drew ?_ | refine blk_alloc ?_ _)); refine blk_put (cs := #[.bool t561, .slice Ao60 x538001_2.length co60, .int .i64 x538002_2]) ?_ 1 _ rfl; (with_reducible repeat (first | refine blk_drewN ?_ _ | refine blk_drew ?_ | refine blk_alloc ?_ _)); refine blk_put (cs := #[.bool x538000_2, .slice Ao60 x538001_2.length co60, .int .i64 x538002_2]) ?_ 0 _ rfl; (with_reducible repeat (first | refine blk_drewN ?_ _ | refine blk_drew ?_ | refine blk_alloc ?_ _)); exact BK537.out⟩, ⟨bes⟩⟩
       ·
        rw [if_neg c21] at H
        have c21b0 : decide (x13_2 < t531) = false := decide_eq_false c21
        clear c21
        have H' := Aside0.mk H
        clear H
        have hnb67 := NB536_537.out
        have hnc67 := NB537_536.out
        have hcz68_0 := bc BK536 0 rfl
        have hcz68_1 := bc BK536 1 rfl
        have hcz68_2 := bc BK536 2 rfl
        have hcz68_3 := bc BK536 3 rfl
        have hfz68_0 := blk_frozen BK536.out 0
        have hfz68_1 := blk_frozen BK536.out 1
        have hfz68_2 := blk_frozen BK536.out 2
        have hfz68_3 := blk_frozen BK536.out 3
        go_wp2
        go_roundg k2
        case measure => have := HK1.out; have := HK2.out; omega
        case rel => exact ⟨(x10_2), (wrap64 (x12_1 + 1)), (x538000_2), (x538001_2), (x538002_2), (u538001), (by first | rfl | (simp; done) | (simp [*]; done)), (by first | rfl | (simp; done) | (simp [*]; done)), H', ⟨by have := HK1.out; have := HK2.out; omega⟩, ⟨kr HO_537003⟩, ⟨kv HO_538001⟩, ⟨kb BK536⟩, ⟨kb BK537⟩, ⟨bes⟩⟩
    ·
     rw [if_neg c18] at H
     have c18b0 : decide (x12_1 < t530) = false := decide_eq_false c18
     clear c18
     have HC69 := Aside0.mk H
     clear H
     have hnb70 := NB536_537.out
     have hnc70 := NB537_536.out
     have hcz71_0 := bc BK536 0 rfl
     have hcz71_1 := bc BK536 1 rfl
     have hcz71_2 := bc BK536 2 rfl
     have hcz71_3 := bc BK536 3 rfl
     have hfz71_0 := blk_frozen BK536.out 0
     have hfz71_1 := blk_frozen BK536.out 1
     have hfz71_2 := blk_frozen BK536.out 2
     have hfz71_3 := blk_frozen BK536.out 3
     go_upto_region 17 with (fail)
     go_cut [75] (fun v75 wc => ∃ (kq : Nat) (x75_68 : Bool), v75 = .bool x75_68 ∧ Aside0 (gimballaw09_MatUnits.j2 kq x10_1 x75_68 t530 t531 t532 t533 = some r) ∧ Aside0 (kq ≤ k1) ∧ Aside0 (Kd.R (Kd.int .u64) 32 wc w.heap.size (fun _ => True) (.slice Ao14 t533.length co14) t533) ∧ Aside0 (Kd.V (Kd.int .u32) 56 wc w.heap.size (fun k_ => some k_ ≠ ((.slice Ao14 t533.length co14) : Value).ownBlock ∧ k_ ≠ gb536 ∧ k_ ≠ gb537) u538001 x538001_1) ∧ Aside0 (wc.heap[gb536]? = some (.cells #[.int .i64 t530, .int .i64 t531, .int .i64 t532, (.slice Ao14 t533.length co14)] 25 (0, 0))) ∧ Aside0 (wc.heap[gb537]? = some (.cells #[.bool x538000_1, u538001, .int .i64 x538002_1] 29 (0, 0))) ∧ Aside0 (Below w.heap.size w wc))
     case first =>
      have H := HC69.out
      clear HC69
      obtain ⟨t566, A720, H⟩ := Option.bind_eq_some_iff.mp H
      (try dsimp -simprocs only at H)
      have A72 := Aside0.mk A720
      clear A720
      by_cases c73 : (t566 != x10_1) = true
      ·
       rw [if_pos c73] at H
       have c73b0 : (t566 != x10_1) = true := c73
       (try (have c73b1 : decide (t566 = x10_1) = false := by simpa using c73))
       (try (have c73b2 : (t566 == x10_1) = false := by simpa using c73))
       (try (have c73b3 : ¬ (t566 = x10_1) := by simpa using c73))
       clear c73
       (first | rw [c73b0] | (simp only [i64_w, i32_w]; rw [c73b0]) | skip)
       rw [hLW] at H
       exact absurd H (by cases k1 <;> simp [gimballaw09_MatUnits.j2])
      ·
       rw [if_neg c73] at H
       have c73b0 : (t566 != x10_1) = false := by simpa using c73
       (try (have c73b1 : decide (t566 = x10_1) = true := by simpa using c73))
       (try (have c73b2 : (t566 == x10_1) = true := by simpa using c73))
       clear c73
       (first | rw [c73b0] | (simp only [i64_w, i32_w]; rw [c73b0]) | skip)
       obtain ⟨⟨t567, t568, t571⟩, A740, H⟩ := Option.bind_eq_some_iff.mp H
       (try dsimp -simprocs only at H)
       have A74 := Aside0.mk A740
       clear A740
       obtain ⟨t572, A750, H⟩ := Option.bind_eq_some_iff.mp H
       (try dsimp -simprocs only at H)
       have A75 := Aside0.mk A750
       clear A750
       have H' := Aside0.mk H
       clear H
       try go_wp2
       refine ax5 (Kd.R_drew HO_537003.out) (Kd.V_drew HO_538001.out) (blk_drew BK536.out) (blk_drew BK537.out) (below_drew1 HB.out) ?_
       clear HO_537003 HO_538001 BK536 BK537 HB
       intro HO_537003 HO_538001 BK536 BK537 HB
       refine start_ (n := 11) (S := fun w' => w'.cell? ⟨gb536, 0, none⟩ = some (.int .i64 t530) ∧ w'.cell? ⟨gb536, 1, none⟩ = some (.int .i64 t531) ∧ w'.cell? ⟨gb536, 2, none⟩ = some (.int .i64 t532) ∧ w'.cell? ⟨gb536, 3, none⟩ = some (.slice Ao14 t533.length co14) ∧ w'.cell? ⟨gb537, 0, none⟩ = some (.bool x538000_1) ∧ w'.cell? ⟨gb537, 1, none⟩ = some (u538001) ∧ w'.cell? ⟨gb537, 2, none⟩ = some (.int .i64 x538002_1)) (ds := []) #[false, false, false, false, false, false, false, false, false, false, false] (by kernel_rfl) rfl rfl ⟨(blk_cell BK536.out 0).trans rfl, (blk_cell BK536.out 1).trans rfl, (blk_cell BK536.out 2).trans rfl, (blk_cell BK536.out 3).trans rfl, (blk_cell BK537.out 0).trans rfl, (blk_cell BK537.out 1).trans rfl, (blk_cell BK537.out 2).trans rfl⟩ (fun hHeld => ?_); refine with_tabW gimballaw09_MatUnits.tab17 gimballaw09_MatUnits.bits17 (fun HT_ HW_ => ?_)
       generalize wr.drew = w76 at HO_537003 HO_538001 BK536 BK537 HB hHeld ⊢
       refine pure_ (i := 2) (N := some 67) (v := ?_) (a' := ?_) #[false, false, true, false, false, false, false, false, false, false, false] rfl rfl (any_of HT_.out (by kernel_rfl)) (fun _ _ _ h => h) (Or.inl ⟨by rfl, ?_⟩) ?_ ?_
       rotate_left
       ·
        intro w'
        go_simp
        with_reducible rfl
       rotate_left
       ·
        simp only [Act.put, sa0, sa1, sa2, i64_w, i32_w]
        rfl
       refine take_ (i := 0) (N := some 65) (v := ?_) (a' := ?_) #[true, false, true, false, false, false, false, false, false, false, false] rfl rfl (take_ofW HT_.out HW_.out (by kernel_rfl)) (fun _ _ _ h => h) (Or.inl ⟨by rfl, ?_⟩) hHeld ?_ ?_
       rotate_left
       ·
        rintro w' ⟨s0, s1, s2, s3, s4, s5, s6⟩
        go_simp
        with_reducible rfl
       rotate_left
       ·
        simp only [Act.put, sa0, sa1, sa2, i64_w, i32_w]
        rfl
       refine one_ (i := 1) (N := some 66) #[true, true, true, false, false, false, false, false, false, false, false] rfl rfl (one_of HT_.out (by kernel_rfl)) (by decide) (fun K hK => ?_)
       refine goes_ Tryd.func11 (by kernel_rfl) rfl #[.agg #[.int .i64 t530, .int .i64 t531, .int .i64 t532, .slice Ao14 t533.length co14]] (by rfl) rfl rfl ga ?_
       with_reducible refine (mat_Matrix_Finite.calls k1 t530 t531 t532 _ _ t533 t566 _ ?side1 ?side2 A72.out).mono ?_
       (case side1 => exact ks HO_537003)
       (case side2 => exact (Kd.R_reads' HO_537003.out).2.1)
       rintro e w77 ⟨rfl, hb⟩
       refine ⟨_, rfl, ?_⟩
       refine ax5 (Kd.R_below (kr HO_537003) hb) (Kd.V_below (kv HO_538001) hb) (bb BK536 hb) (bb BK537 hb) (below_step bes hb) ?_
       clear HO_537003 HO_538001 BK536 BK537 HB
       intro HO_537003 HO_538001 BK536 BK537 HB
       (try clear hb)
       (try clear hb2)
       (try clear hk)
       (try clear hi)
       refine hK.out _ _ ⟨(blk_cell BK536.out 0).trans rfl, (blk_cell BK536.out 1).trans rfl, (blk_cell BK536.out 2).trans rfl, (blk_cell BK536.out 3).trans rfl, (blk_cell BK537.out 0).trans rfl, (blk_cell BK537.out 1).trans rfl, (blk_cell BK537.out 2).trans rfl⟩ (fun hHeld => ?_)
       clear hK K
       refine norm_ (a' := ?_) ?_ ?_
       rotate_left
       ·
        show Act.put _ (some 66) _ = _
        simp only [Act.put, sa0, sa1, sa2, i64_w, i32_w]
        rfl
       refine pure_ (i := 3) (N := some 68) (v := ?_) (a' := ?_) #[true, true, true, true, false, false, false, false, false, false, false] rfl rfl (any_of HT_.out (by kernel_rfl)) (fun _ _ _ h => h) (Or.inl ⟨by rfl, ?_⟩) ?_ ?_
       rotate_left
       ·
        intro w'
        go_simp
        with_reducible rfl
       rotate_left
       ·
        simp only [Act.put, sa0, sa1, sa2, i64_w, i32_w]
        rfl
       refine pure_ (i := 4) (N := some 69) (v := ?_) (a' := ?_) #[true, true, true, true, true, false, false, false, false, false, false] rfl rfl (any_of HT_.out (by kernel_rfl)) (fun _ _ _ h => h) (Or.inl ⟨by rfl, ?_⟩) ?_ ?_
       rotate_left
       ·
        intro w'
        go_simp
        with_reducible rfl
       rotate_left
       ·
        simp only [Act.put, sa0, sa1, sa2, i64_w, i32_w]
        rfl
       refine take_ (i := 5) (N := some 70) (v := ?_) (a' := ?_) #[true, true, true, true, true, true, false, false, false, false, false] rfl rfl (take_ofW HT_.out HW_.out (by kernel_rfl)) (fun _ _ _ h => h) (Or.inl ⟨by rfl, ?_⟩) hHeld ?_ ?_
       rotate_left
       ·
        rintro w' ⟨s0, s1, s2, s3, s4, s5, s6⟩
        go_simp
        with_reducible rfl
       rotate_left
       ·
        simp only [Act.put, sa0, sa1, sa2, i64_w, i32_w]
        rfl
       refine take_ (i := 7) (N := some 72) (v := ?_) (a' := ?_) #[true, true, true, true, true, true, false, true, false, false, false] rfl rfl (take_ofW HT_.out HW_.out (by kernel_rfl)) (fun _ _ _ h => h) (Or.inl ⟨by rfl, ?_⟩) hHeld ?_ ?_
       rotate_left
       ·
        rintro w' ⟨s0, s1, s2, s3, s4, s5, s6⟩
        go_simp
        with_reducible rfl
       rotate_left
       ·
        simp only [Act.put, sa0, sa1, sa2, i64_w, i32_w]
        rfl
       refine one_ (i := 6) (N := some 71) #[true, true, true, true, true, true, true, true, false, false, false] rfl rfl (one_of HT_.out (by kernel_rfl)) (by decide) (fun K hK => ?_)
       refine goes_ Tryd.func12 (by kernel_rfl) rfl #[.agg #[.int .i64 t530, .int .i64 t531, .int .i64 t532, .slice Ao14 t533.length co14]] (by rfl) rfl rfl ga ?_
       with_reducible refine (mat_Matrix_Square.calls k1 t530 t531 t532 _ _ t533 t567 t568 t571 _ ?side1 ?side2 ?side3 A74.out).mono ?_
       (case side1 => exact ks HO_537003)
       (case side2 => exact (Kd.R_reads' HO_537003.out).2.1)
       (case side3 => first | exact hT | exact TabW.drewN hT _ | exact TabW.drew hT | exact TabW.below hT bes)
       rintro e w78 ⟨v569, rfl, ho0, hb⟩
       refine ⟨_, rfl, ?_⟩
       refine ax6 (Kd.R_below (kr HO_537003) hb) (Kd.V_below (kv HO_538001) hb) (Kd.V_lower (Kd.V_mono (ok' := fun k_ => some k_ ≠ (.slice Ao14 t533.length co14 : Value).ownBlock ∧ k_ ≠ gb536 ∧ k_ ≠ gb537) ho0 (fun k_ hk_ => ⟨(Kd.fresh' (Kd.R_lt (kr HO_537003)) k_ hk_), (fb BK536 k_ hk_), (fb BK537 k_ hk_)⟩)) (below_size bes)) (bb BK536 hb) (bb BK537 hb) (below_step bes hb) ?_
       clear HO_537003 HO_538001 BK536 BK537 HB
       intro HO_537003 HO_538001 HO570 BK536 BK537 HB
       (try clear hb)
       (try clear hb2)
       (try clear hk)
       (try clear hi)
       (try clear ho0)
       obtain ⟨Ao79, co79, eo79⟩ := Kd.V_slice HO570.out
       (first | subst eo79 | (injection eo79 with f1_ f2_ f3_; have f4_ := f1_.symm; have f5_ := f3_.symm; clear f1_ f2_ f3_; subst f4_; subst f5_))
       obtain ⟨Ao80, co80, eo80⟩ := Kd.V_slice HO_538001.out
       (first | subst eo80 | (injection eo80 with f1_ f2_ f3_; have f4_ := f1_.symm; have f5_ := f3_.symm; clear f1_ f2_ f3_; subst f4_; subst f5_))
       refine hK.out _ _ ⟨(blk_cell BK536.out 0).trans rfl, (blk_cell BK536.out 1).trans rfl, (blk_cell BK536.out 2).trans rfl, (blk_cell BK536.out 3).trans rfl, (blk_cell BK537.out 0).trans rfl, (blk_cell BK537.out 1).trans rfl, (blk_cell BK537.out 2).trans rfl⟩ (fun hHeld => ?_)
       clear hK K
       refine norm_ (a' := ?_) ?_ ?_
       rotate_left
       ·
        show Act.put _ (some 71) _ = _
        simp only [Act.put, sa0, sa1, sa2, i64_w, i32_w]
        rfl
       refine one_ (i := 8) (N := some 73) #[true, true, true, true, true, true, true, true, true, false, false] rfl rfl (one_of HT_.out (by kernel_rfl)) (by decide) (fun K hK => ?_)
       refine goes_ Tryd.func13 (by kernel_rfl) rfl #[.agg #[.bool t567, .slice Ao79 t568.length co79, .int .i64 t571], .agg #[.bool x538000_1, .slice Ao80 x538001_1.length co80, .int .i64 x538002_1]] (by rfl) rfl rfl ga ?_
       with_reducible refine (dyad_Num_Same.calls k1 t567 _ _ t568 t571 x538000_1 _ _ x538001_1 x538002_1 t572 _ ?side1 ?side2 ?side3 ?side4 A75.out).mono ?_
       (case side1 => exact kvs HO570)
       (case side2 => exact (Kd.V_reads' HO570.out).2.1)
       (case side3 => exact kvs HO_538001)
       (case side4 => exact (Kd.V_reads' HO_538001.out).2.1)
       rintro e w81 ⟨rfl, hb⟩
       refine ⟨_, rfl, ?_⟩
       refine ax6 (Kd.R_below (kr HO_537003) hb) (Kd.V_below (kv HO_538001) hb) (Kd.V_below (kv HO570) hb) (bb BK536 hb) (bb BK537 hb) (below_step bes hb) ?_
       clear HO_537003 HO_538001 HO570 BK536 BK537 HB
       intro HO_537003 HO_538001 HO570 BK536 BK537 HB
       (try clear hb)
       (try clear hb2)
       (try clear hk)
       (try clear hi)
       refine hK.out _ _ ⟨(blk_cell BK536.out 0).trans rfl, (blk_cell BK536.out 1).trans rfl, (blk_cell BK536.out 2).trans rfl, (blk_cell BK536.out 3).trans rfl, (blk_cell BK537.out 0).trans rfl, (blk_cell BK537.out 1).trans rfl, (blk_cell BK537.out 2).trans rfl⟩ (fun hHeld => ?_)
       clear hK K
       refine norm_ (a' := ?_) ?_ ?_
       rotate_left
       ·
        show Act.put _ (some 73) _ = _
        simp only [Act.put, sa0, sa1, sa2, i64_w, i32_w]
        rfl
       refine pure_ (i := 9) (N := some 74) (v := ?_) (a' := ?_) #[true, true, true, true, true, true, true, true, true, true, false] rfl rfl (any_of HT_.out (by kernel_rfl)) (fun _ _ _ h => h) (Or.inl ⟨by rfl, ?_⟩) ?_ ?_
       rotate_left
       ·
        intro w'
        go_simp
        with_reducible rfl
       rotate_left
       ·
        simp only [Act.put, sa0, sa1, sa2, i64_w, i32_w]
        rfl
       refine pure_ (i := 10) (N := some 75) (v := ?_) (a' := ?_) #[true, true, true, true, true, true, true, true, true, true, true] rfl rfl (any_of HT_.out (by kernel_rfl)) (fun _ _ _ h => h) (Or.inl ⟨by rfl, ?_⟩) ?_ ?_
       rotate_left
       ·
        intro w'
        go_simp
        with_reducible rfl
       rotate_left
       ·
        simp only [Act.put, sa0, sa1, sa2, i64_w, i32_w]
        rfl
       refine done_ (done_of HT_.out (by kernel_rfl)) ?_
       try go_wp2
       go_meet
       case rel => exact ⟨_, (!t572), (by first | rfl | (simp; done) | (simp [*]; done)), H', ⟨by have := HK1.out; first | omega | exact Nat.le_refl _⟩, ⟨kr HO_537003⟩, ⟨kv HO_538001⟩, ⟨kb BK536⟩, ⟨kb BK537⟩, ⟨bes⟩⟩
     case rest =>
      clear HC69
      try clear c1
      try clear c2
      try clear p2
      try clear c4
      try clear c5
      try clear c6
      try clear p6
      try clear c7
      try clear c8
      try clear c9
      try clear c10
      try clear c11
      try clear c12
      try clear c13
      try clear c18
      try clear c18b0
      try clear c21
      try clear c21b0
      try clear c24
      try clear c48
      try clear c53
      try clear c54
      try clear p64
      try clear c67
      try clear c70
      try clear c73
      try clear c73b0
      try clear c73b1
      try clear c73b2
      try clear hcz49_0
      try clear hcz49_1
      try clear hcz49_2
      try clear hcz49_3
      try clear hcz55_0
      try clear hcz55_1
      try clear hcz55_2
      try clear hcz68_0
      try clear hcz68_1
      try clear hcz68_2
      try clear hcz68_3
      try clear hcz71_0
      try clear hcz71_1
      try clear hcz71_2
      try clear hcz71_3
      try clear hfz49_0
      try clear hfz49_1
      try clear hfz49_2
      try clear hfz49_3
      try clear hfz55_0
      try clear hfz55_1
      try clear hfz55_2
      try clear hfz68_0
      try clear hfz68_1
      try clear hfz68_2
      try clear hfz68_3
      try clear hfz71_0
      try clear hfz71_1
      try clear hfz71_2
      try clear hfz71_3
      obtain ⟨kq, x75_68, rfl, HA, HJ68, HO_537003, HO_538001, BK536, BK537, HB⟩ := hcut
      cases kq with
      | zero => exact absurd HA.out (by simp [gimballaw09_MatUnits.j2])
      | succ kj68 =>
       have H := HA.out
       clear HA
       simp only [gimballaw09_MatUnits.j2] at H
       by_cases c82 : x75_68 = true
       ·
        subst c82
        rw [if_pos rfl] at H
        rw [hLW] at H
        exact absurd H (by simp)
       ·
        replace c82 := Bool.eq_false_iff.mpr c82
        subst c82
        rw [if_neg (show ¬ (false = true) by decide)] at H
        by_cases c83 : x10_1 = true
        rotate_left
        ·
         replace c83 := Bool.eq_false_iff.mpr c83
         subst c83
         rw [if_neg (show ¬ (false = true) by decide)] at H
         obtain rfl := Option.some.inj H
         go_wp2
         go_ret
         exact ⟨er, bes⟩
        subst c83
        rw [if_pos rfl] at H
        obtain ⟨⟨t573, t574, t575, t576, t579⟩, A840, H⟩ := Option.bind_eq_some_iff.mp H
        (try dsimp -simprocs only at H)
        have A84 := Aside0.mk A840
        clear A840
        have H' := Aside0.mk H
        clear H
        have hnb85 := NB536_537.out
        have hnc85 := NB537_536.out
        have hcz86_0 := bc BK536 0 rfl
        have hcz86_1 := bc BK536 1 rfl
        have hcz86_2 := bc BK536 2 rfl
        have hcz86_3 := bc BK536 3 rfl
        have hfz86_0 := blk_frozen BK536.out 0
        have hfz86_1 := blk_frozen BK536.out 1
        have hfz86_2 := blk_frozen BK536.out 2
        have hfz86_3 := blk_frozen BK536.out 3
        go_wp2_with (first | ((with_reducible refine gate_callee (f := 14) rfl ?_); refine goesL_ (some 80) rfl rfl Tryd.func14 (by kernel_rfl) rfl #[.agg #[.int .i64 t530, .int .i64 t531, .int .i64 t532, .slice Ao14 t533.length co14]] rfl ga ?_; (with_reducible refine (mat_Matrix_Unit.calls kj68 t530 t531 t532 _ _ t533 t573 t574 t575 t576 t579 _ ?side1 ?side2 A84.out).mono ?_); (case side1 => exact ks HO_537003); (case side2 => exact (Kd.R_reads' HO_537003.out).2.1); rintro e w87 ⟨v577, rfl, ho0, hb⟩; refine ⟨_, rfl, ?_⟩; refine ax6 (Kd.R_elder' (kr HO_537003) (Kd.R_base ho0) hb) (Kd.V_elder' (kv HO_538001) (Kd.R_base ho0) hb) (Kd.R_lower (Kd.R_new' ho0 (Kd.R_lt (kr HO_537003))) (below_size bes)) (bb BK536 hb) (bb BK537 hb) (below_step bes hb) ?_; clear HO_537003; clear HO_538001; clear BK536; clear BK537; clear HB; intro HO_537003 HO_538001 HO578 BK536 BK537 HB; (try clear hb); (try clear ho0)) | ((with_reducible refine gate_dst (N := 16) rfl ?_); refine gbox (N := 16) (cs := #[.int .i64 0, .int .i64 0, .int .i64 0, .slice none 0 0]) (t := 25) ?_; intro gb580 hg w88 hbox hb; refine ax13 (Kd.R_below (kr HO_537003) hb) (Kd.V_below (Kd.V_elderB (kv HO_538001) gb580 (Nat.le_of_eq hg.symm)) hb) (Kd.R_below (kr HO578) hb) (bb BK536 hb) (bb BK537 hb) (below_step bes hb) hbox ((ge hg : w.heap.size ≤ gb580)) ((ge hg : w.heap.size ≤ gb580)) (nl hg BK536) (ng hg BK536) (nl hg BK537) (ng hg BK537) ?_; clear HO_537003; clear HO_538001; clear HO578; clear BK536; clear BK537; clear HB; intro HO_537003 HO_538001 HO578 BK536 BK537 HB BK580 GW580 GE580 NB536_580 NB580_536 NB537_580 NB580_537; clear hb hbox hg; have hnb89 := NB580_536.out; have hnc89 := NB536_580.out; have hnb90 := NB580_537.out; have hnc90 := NB537_580.out; have hcz91_0 := bc BK580 0 rfl; have hcz91_1 := bc BK580 1 rfl; have hcz91_2 := bc BK580 2 rfl; have hcz91_3 := bc BK580 3 rfl; have hfz91_0 := blk_frozen BK580.out 0; have hfz91_1 := blk_frozen BK580.out 1; have hfz91_2 := blk_frozen BK580.out 2; have hfz91_3 := blk_frozen BK580.out 3; obtain ⟨Ao92, co92, eo92⟩ := Kd.R_slice HO578.out; subst eo92) | ((with_reducible refine gate_dst (N := 18) rfl ?_); refine gbox (N := 18) (cs := #[.bool false, .slice none 0 0, .int .i64 0]) (t := 29) ?_; intro gb581 hg w93 hbox hb; refine ax16 (Kd.R_below (by (with_reducible repeat (first | apply Kd.R_alloc | apply Kd.R_drewN | apply Kd.R_drew)); exact (Kd.R_mono (Kd.R_far (p := ⟨gb580, 3, none⟩) (Kd.R_far (p := ⟨gb580, 2, none⟩) (Kd.R_far (p := ⟨gb580, 1, none⟩) (Kd.R_far (p := ⟨gb580, 0, none⟩) (Kd.R_types HO_537003.out BK580.out (by decide)) (fun _ hk => hk.2) (.int .i64 t573)) (fun _ hk => hk.2) (.int .i64 t574)) (fun _ hk => hk.2) (.int .i64 t575)) (fun _ hk => hk.2) (.slice Ao92 t576.length co92)) (fun _ h_ => h_.1))) hb) (Kd.V_below (Kd.V_elderB (by (with_reducible repeat (first | apply Kd.V_alloc | apply Kd.V_drewN | apply Kd.V_drew)); exact (Kd.V_mono (Kd.V_far (p := ⟨gb580, 3, none⟩) (Kd.V_far (p := ⟨gb580, 2, none⟩) (Kd.V_far (p := ⟨gb580, 1, none⟩) (Kd.V_far (p := ⟨gb580, 0, none⟩) (Kd.V_mono HO_538001.out (fun k_ hk => (⟨hk, hk.2⟩ : _ ∧ k_ ≠ gb580))) (fun _ hk => hk.2) (.int .i64 t573)) (fun _ hk => hk.2) (.int .i64 t574)) (fun _ hk => hk.2) (.int .i64 t575)) (fun _ hk => hk.2) (.slice Ao92 t576.length co92)) (fun _ h_ => h_.1))) gb581 (Nat.le_of_eq hg.symm)) hb) (Kd.R_below (by (with_reducible repeat (first | apply Kd.R_alloc | apply Kd.R_drewN | apply Kd.R_drew)); exact (Kd.R_mono (Kd.R_far (p := ⟨gb580, 3, none⟩) (Kd.R_far (p := ⟨gb580, 2, none⟩) (Kd.R_far (p := ⟨gb580, 1, none⟩) (Kd.R_far (p := ⟨gb580, 0, none⟩) (Kd.R_types HO578.out BK580.out (by decide)) (fun _ hk => hk.2) (.int .i64 t573)) (fun _ hk => hk.2) (.int .i64 t574)) (fun _ hk => hk.2) (.int .i64 t575)) (fun _ hk => hk.2) (.slice Ao92 t576.length co92)) (fun _ h_ => h_.1))) hb) (blk_below (g := gb536) (o := .cells #[.int .i64 t530, .int .i64 t531, .int .i64 t532, .slice Ao14 t533.length co14] 25 (0, 0)) (by (with_reducible repeat (first | refine blk_drewN ?_ _ | refine blk_drew ?_ | refine blk_alloc ?_ _)); refine blk_far ?_ NB536_580.out _; (with_reducible repeat (first | refine blk_drewN ?_ _ | refine blk_drew ?_ | refine blk_alloc ?_ _)); refine blk_far ?_ NB536_580.out _; (with_reducible repeat (first | refine blk_drewN ?_ _ | refine blk_drew ?_ | refine blk_alloc ?_ _)); refine blk_far ?_ NB536_580.out _; (with_reducible repeat (first | refine blk_drewN ?_ _ | refine blk_drew ?_ | refine blk_alloc ?_ _)); refine blk_far ?_ NB536_580.out _; (with_reducible repeat (first | refine blk_drewN ?_ _ | refine blk_drew ?_ | refine blk_alloc ?_ _)); exact BK536.out) hb) (blk_below (g := gb537) (o := .cells #[.bool x538000_1, u538001, .int .i64 x538002_1] 29 (0, 0)) (by (with_reducible repeat (first | refine blk_drewN ?_ _ | refine blk_drew ?_ | refine blk_alloc ?_ _)); refine blk_far ?_ NB537_580.out _; (with_reducible repeat (first | refine blk_drewN ?_ _ | refine blk_drew ?_ | refine blk_alloc ?_ _)); refine blk_far ?_ NB537_580.out _; (with_reducible repeat (first | refine blk_drewN ?_ _ | refine blk_drew ?_ | refine blk_alloc ?_ _)); refine blk_far ?_ NB537_580.out _; (with_reducible repeat (first | refine blk_drewN ?_ _ | refine blk_drew ?_ | refine blk_alloc ?_ _)); refine blk_far ?_ NB537_580.out _; (with_reducible repeat (first | refine blk_drewN ?_ _ | refine blk_drew ?_ | refine blk_alloc ?_ _)); exact BK537.out) hb) (blk_below (g := gb580) (o := .cells #[.int .i64 t573, .int .i64 t574, .int .i64 t575, .slice Ao92 t576.length co92] 25 (0, 0)) (by (with_reducible repeat (first | refine blk_drewN ?_ _ | refine blk_drew ?_ | refine blk_alloc ?_ _)); refine blk_put (cs := #[.int .i64 t573, .int .i64 t574, .int .i64 t575, .slice none 0 0]) ?_ 3 _ rfl; (with_reducible repeat (first | refine blk_drewN ?_ _ | refine blk_drew ?_ | refine blk_alloc ?_ _)); refine blk_put (cs := #[.int .i64 t573, .int .i64 t574, .int .i64 0, .slice none 0 0]) ?_ 2 _ rfl; (with_reducible repeat (first | refine blk_drewN ?_ _ | refine blk_drew ?_ | refine blk_alloc ?_ _)); refine blk_put (cs := #[.int .i64 t573, .int .i64 0, .int .i64 0, .slice none 0 0]) ?_ 1 _ rfl; (with_reducible repeat (first | refine blk_drewN ?_ _ | refine blk_drew ?_ | refine blk_alloc ?_ _)); refine blk_put (cs := #[.int .i64 0, .int .i64 0, .int .i64 0, .slice none 0 0]) ?_ 0 _ rfl; (with_reducible repeat (first | refine blk_drewN ?_ _ | refine blk_drew ?_ | refine blk_alloc ?_ _)); exact BK580.out) hb) (below_step bes hb) hbox ((ge hg : w.heap.size ≤ gb581)) ((ge hg : w.heap.size ≤ gb581)) ((by rw [hg]; exact Nat.ne_of_lt (blk_lt (g := gb536) (o := .cells #[.int .i64 t530, .int .i64 t531, .int .i64 t532, .slice Ao14 t533.length co14] 25 (0, 0)) (by (with_reducible repeat (first | refine blk_drewN ?_ _ | refine blk_drew ?_ | refine blk_alloc ?_ _)); refine blk_far ?_ NB536_580.out _; (with_reducible repeat (first | refine blk_drewN ?_ _ | refine blk_drew ?_ | refine blk_alloc ?_ _)); refine blk_far ?_ NB536_580.out _; (with_reducible repeat (first | refine blk_drewN ?_ _ | refine blk_drew ?_ | refine blk_alloc ?_ _)); refine blk_far ?_ NB536_580.out _; (with_reducible repeat (first | refine blk_drewN ?_ _ | refine blk_drew ?_ | refine blk_alloc ?_ _)); refine blk_far ?_ NB536_580.out _; (with_reducible repeat (first | refine blk_drewN ?_ _ | refine blk_drew ?_ | refine blk_alloc ?_ _)); exact BK536.out)) : gb536 ≠ gb581)) ((by rw [hg]; exact Nat.ne_of_gt (blk_lt (g := gb536) (o := .cells #[.int .i64 t530, .int .i64 t531, .int .i64 t532, .slice Ao14 t533.length co14] 25 (0, 0)) (by (with_reducible repeat (first | refine blk_drewN ?_ _ | refine blk_drew ?_ | refine blk_alloc ?_ _)); refine blk_far ?_ NB536_580.out _; (with_reducible repeat (first | refine blk_drewN ?_ _ | refine blk_drew ?_ | refine blk_alloc ?_ _)); refine blk_far ?_ NB536_580.out _; (with_reducible repeat (first | refine blk_drewN ?_ _ | refine blk_drew ?_ | refine blk_alloc ?_ _)); refine blk_far ?_ NB536_580.out _; (with_reducible repeat (first | refine blk_drewN ?_ _ | refine blk_drew ?_ | refine blk_alloc ?_ _)); refine blk_far ?_ NB536_580.out _; (with_reducible repeat (first | refine blk_drewN ?_ _ | refine blk_drew ?_ | refine blk_alloc ?_ _)); exact BK536.out)) : gb581 ≠ gb536)) ((by rw [hg]; exact Nat.ne_of_lt (blk_lt (g := gb537) (o := .cells #[.bool x538000_1, u538001, .int .i64 x538002_1] 29 (0, 0)) (by (with_reducible repeat (first | refine blk_drewN ?_ _ | refine blk_drew ?_ | refine blk_alloc ?_ _)); refine blk_far ?_ NB537_580.out _; (with_reducible repeat (first | refine blk_drewN ?_ _ | refine blk_drew ?_ | refine blk_alloc ?_ _)); refine blk_far ?_ NB537_580.out _; (with_reducible repeat (first | refine blk_drewN ?_ _ | refine blk_drew ?_ | refine blk_alloc ?_ _)); refine blk_far ?_ NB537_580.out _; (with_reducible repeat (first | refine blk_drewN ?_ _ | refine blk_drew ?_ | refine blk_alloc ?_ _)); refine blk_far ?_ NB537_580.out _; (with_reducible repeat (first | refine blk_drewN ?_ _ | refine blk_drew ?_ | refine blk_alloc ?_ _)); exact BK537.out)) : gb537 ≠ gb581)) ((by rw [hg]; exact Nat.ne_of_gt (blk_lt (g := gb537) (o := .cells #[.bool x538000_1, u538001, .int .i64 x538002_1] 29 (0, 0)) (by (with_reducible repeat (first | refine blk_drewN ?_ _ | refine blk_drew ?_ | refine blk_alloc ?_ _)); refine blk_far ?_ NB537_580.out _; (with_reducible repeat (first | refine blk_drewN ?_ _ | refine blk_drew ?_ | refine blk_alloc ?_ _)); refine blk_far ?_ NB537_580.out _; (with_reducible repeat (first | refine blk_drewN ?_ _ | refine blk_drew ?_ | refine blk_alloc ?_ _)); refine blk_far ?_ NB537_580.out _; (with_reducible repeat (first | refine blk_drewN ?_ _ | refine blk_drew ?_ | refine blk_alloc ?_ _)); refine blk_far ?_ NB537_580.out _; (with_reducible repeat (first | refine blk_drewN ?_ _ | refine blk_drew ?_ | refine blk_alloc ?_ _)); exact BK537.out)) : gb581 ≠ gb537)) ((by rw [hg]; exact Nat.ne_of_lt (blk_lt (g := gb580) (o := .cells #[.int .i64 t573, .int .i64 t574, .int .i64 t575, .slice Ao92 t576.length co92] 25 (0, 0)) (by (with_reducible repeat (first | refine blk_drewN ?_ _ | refine blk_drew ?_ | refine blk_alloc ?_ _)); refine blk_put (cs := #[.int .i64 t573, .int .i64 t574, .int .i64 t575, .slice none 0 0]) ?_ 3 _ rfl; (with_reducible repeat (first | refine blk_drewN ?_ _ | refine blk_drew ?_ | refine blk_alloc ?_ _)); refine blk_put (cs := #[.int .i64 t573, .int .i64 t574, .int .i64 0, .slice none 0 0]) ?_ 2 _ rfl; (with_reducible repeat (first | refine blk_drewN ?_ _ | refine blk_drew ?_ | refine blk_alloc ?_ _)); refine blk_put (cs := #[.int .i64 t573, .int .i64 0, .int .i64 0, .slice none 0 0]) ?_ 1 _ rfl; (with_reducible repeat (first | refine blk_drewN ?_ _ | refine blk_drew ?_ | refine blk_alloc ?_ _)); refine blk_put (cs := #[.int .i64 0, .int .i64 0, .int .i64 0, .slice none 0 0]) ?_ 0 _ rfl; (with_reducible repeat (first | refine blk_drewN ?_ _ | refine blk_drew ?_ | refine blk_alloc ?_ _)); exact BK580.out)) : gb580 ≠ gb581)) ((by rw [hg]; exact Nat.ne_of_gt (blk_lt (g := gb580) (o := .cells #[.int .i64 t573, .int .i64 t574, .int .i64 t575, .slice Ao92 t576.length co92] 25 (0, 0)) (by (with_reducible repeat (first | refine blk_drewN ?_ _ | refine blk_drew ?_ | refine blk_alloc ?_ _)); refine blk_put (cs := #[.int .i64 t573, .int .i64 t574, .int .i64 t575, .slice none 0 0]) ?_ 3 _ rfl; (with_reducible repeat (first | refine blk_drewN ?_ _ | refine blk_drew ?_ | refine blk_alloc ?_ _)); refine blk_put (cs := #[.int .i64 t573, .int .i64 t574, .int .i64 0, .slice none 0 0]) ?_ 2 _ rfl; (with_reducible repeat (first | refine blk_drewN ?_ _ | refine blk_drew ?_ | refine blk_alloc ?_ _)); refine blk_put (cs := #[.int .i64 t573, .int .i64 0, .int .i64 0, .slice none 0 0]) ?_ 1 _ rfl; (with_reducible repeat (first | refine blk_drewN ?_ _ | refine blk_drew ?_ | refine blk_alloc ?_ _)); refine blk_put (cs := #[.int .i64 0, .int .i64 0, .int .i64 0, .slice none 0 0]) ?_ 0 _ rfl; (with_reducible repeat (first | refine blk_drewN ?_ _ | refine blk_drew ?_ | refine blk_alloc ?_ _)); exact BK580.out)) : gb581 ≠ gb580)) ?_; clear HO_537003; clear HO_538001; clear HO578; clear BK536; clear BK537; clear BK580; clear HB; intro HO_537003 HO_538001 HO578 BK536 BK537 BK580 HB BK581 GW581 GE581 NB536_581 NB581_536 NB537_581 NB581_537 NB580_581 NB581_580; clear hb hbox hg; have hnb94 := NB581_536.out; have hnc94 := NB536_581.out; have hnb95 := NB581_537.out; have hnc95 := NB537_581.out; have hnb96 := NB581_580.out; have hnc96 := NB580_581.out; have hcz97_0 := bc BK581 0 rfl; have hcz97_1 := bc BK581 1 rfl; have hcz97_2 := bc BK581 2 rfl; have hfz97_0 := blk_frozen BK581.out 0; have hfz97_1 := blk_frozen BK581.out 1; have hfz97_2 := blk_frozen BK581.out 2))
        go_loopg [19] kj68 (fun kq v19 w' => ∃ (x19_3 : Int) (x582000_3 : Bool) (x582001_3 : List Int) (x582002_3 : Int) (u582001 : Value), v19 = .int .i64 x19_3 ∧ Aside0 (gimballaw09_MatUnits.l2 kq t579 x19_3 t530 t531 t532 t533 t573 t574 t575 t576 x582000_3 x582001_3 x582002_3 = some r) ∧ Aside0 (kq ≤ kj68) ∧ Aside0 (Kd.R (Kd.int .u64) 32 w' w.heap.size (fun k_ => some k_ ≠ ((.slice Ao92 t576.length co92) : Value).ownBlock) (.slice Ao14 t533.length co14) t533) ∧ Aside0 (Kd.V (Kd.int .u32) 56 w' w.heap.size (fun k_ => some k_ ≠ ((.slice Ao14 t533.length co14) : Value).ownBlock ∧ some k_ ≠ ((.slice Ao92 t576.length co92) : Value).ownBlock ∧ k_ ≠ gb536 ∧ k_ ≠ gb537 ∧ k_ ≠ gb580 ∧ k_ ≠ gb581) u538001 x538001_1) ∧ Aside0 (Kd.R (Kd.int .u64) 32 w' w.heap.size (fun k_ => some k_ ≠ ((.slice Ao14 t533.length co14) : Value).ownBlock) (.slice Ao92 t576.length co92) t576) ∧ Aside0 (Kd.V (Kd.int .u32) 56 w' w.heap.size (fun k_ => some k_ ≠ ((.slice Ao14 t533.length co14) : Value).ownBlock ∧ some k_ ≠ ((.slice Ao92 t576.length co92) : Value).ownBlock ∧ k_ ≠ gb536 ∧ k_ ≠ gb537 ∧ k_ ≠ gb580 ∧ k_ ≠ gb581) u582001 x582001_3) ∧ Aside0 (w'.heap[gb536]? = some (.cells #[.int .i64 t530, .int .i64 t531, .int .i64 t532, (.slice Ao14 t533.length co14)] 25 (0, 0))) ∧ Aside0 (w'.heap[gb537]? = some (.cells #[.bool x538000_1, u538001, .int .i64 x538002_1] 29 (0, 0))) ∧ Aside0 (w'.heap[gb580]? = some (.cells #[.int .i64 t573, .int .i64 t574, .int .i64 t575, (.slice Ao92 t576.length co92)] 25 (0, 0))) ∧ Aside0 (w'.heap[gb581]? = some (.cells #[.bool x582000_3, u582001, .int .i64 x582002_3] 29 (0, 0))) ∧ Aside0 (Below w.heap.size w w'))
        case atStart => exact ⟨(0), (false), (([] : List Int)), (0), (.slice none 0 0), (by first | rfl | (simp; done) | (simp [*]; done)), H', ⟨Nat.le_refl _⟩, ⟨by (with_reducible repeat (first | apply Kd.R_alloc | apply Kd.R_drewN | apply Kd.R_drew)); exact Kd.R_mono (Kd.R_far (p := ⟨gb581, 2, none⟩) (Kd.R_far (p := ⟨gb581, 1, none⟩) (Kd.R_far (p := ⟨gb581, 0, none⟩) (Kd.R_types HO_537003.out BK581.out (by decide)) (fun _ hk => hk.2) (.bool false)) (fun _ hk => hk.2) (.slice none 0 0)) (fun _ hk => hk.2) (.int .i64 0)) (fun _ hk => hk.1.2)⟩, ⟨by (with_reducible repeat (first | apply Kd.V_alloc | apply Kd.V_drewN | apply Kd.V_drew)); exact Kd.V_mono (Kd.V_far (p := ⟨gb581, 2, none⟩) (Kd.V_far (p := ⟨gb581, 1, none⟩) (Kd.V_far (p := ⟨gb581, 0, none⟩) (Kd.V_mono HO_538001.out (fun k_ hk => (⟨hk, hk.2⟩ : _ ∧ k_ ≠ gb581))) (fun _ hk => hk.2) (.bool false)) (fun _ hk => hk.2) (.slice none 0 0)) (fun _ hk => hk.2) (.int .i64 0)) (fun _ hk => ⟨hk.1.1.1.1.1, ⟨hk.1.1.1.2, ⟨hk.1.1.1.1.2.1, ⟨hk.1.1.1.1.2.2, ⟨hk.1.1.2, hk.1.2⟩⟩⟩⟩⟩)⟩, ⟨by (with_reducible repeat (first | apply Kd.R_alloc | apply Kd.R_drewN | apply Kd.R_drew)); exact Kd.R_mono (Kd.R_far (p := ⟨gb581, 2, none⟩) (Kd.R_far (p := ⟨gb581, 1, none⟩) (Kd.R_far (p := ⟨gb581, 0, none⟩) (Kd.R_types HO578.out BK581.out (by decide)) (fun _ hk => hk.2) (.bool false)) (fun _ hk => hk.2) (.slice none 0 0)) (fun _ hk => hk.2) (.int .i64 0)) (fun _ hk => hk.1.2)⟩, ⟨Kd.V_nil _ _ _ _ _⟩, ⟨by (with_reducible repeat (first | refine blk_drewN ?_ _ | refine blk_drew ?_ | refine blk_alloc ?_ _)); refine blk_far ?_ NB536_581.out _; (with_reducible repeat (first | refine blk_drewN ?_ _ | refine blk_drew ?_ | refine blk_alloc ?_ _)); refine blk_far ?_ NB536_581.out _; (with_reducible repeat (first | refine blk_drewN ?_ _ | refine blk_drew ?_ | refine blk_alloc ?_ _)); refine blk_far ?_ NB536_581.out _; (with_reducible repeat (first | refine blk_drewN ?_ _ | refine blk_drew ?_ | refine blk_alloc ?_ _)); exact BK536.out⟩, ⟨by (with_reducible repeat (first | refine blk_drewN ?_ _ | refine blk_drew ?_ | refine blk_alloc ?_ _)); refine blk_far ?_ NB537_581.out _; (with_reducible repeat (first | refine blk_drewN ?_ _ | refine blk_drew ?_ | refine blk_alloc ?_ _)); refine blk_far ?_ NB537_581.out _; (with_reducible repeat (first | refine blk_drewN ?_ _ | refine blk_drew ?_ | refine blk_alloc ?_ _)); refine blk_far ?_ NB537_581.out _; (with_reducible repeat (first | refine blk_drewN ?_ _ | refine blk_drew ?_ | refine blk_alloc ?_ _)); exact BK537.out⟩, ⟨by (with_reducible repeat (first | refine blk_drewN ?_ _ | refine blk_drew ?_ | refine blk_alloc ?_ _)); refine blk_far ?_ NB580_581.out _; (with_reducible repeat (first | refine blk_drewN ?_ _ | refine blk_drew ?_ | refine blk_alloc ?_ _)); refine blk_far ?_ NB580_581.out _; (with_reducible repeat (first | refine blk_drewN ?_ _ | refine blk_drew ?_ | refine blk_alloc ?_ _)); refine blk_far ?_ NB580_581.out _; (with_reducible repeat (first | refine blk_drewN ?_ _ | refine blk_drew ?_ | refine blk_alloc ?_ _)); exact BK580.out⟩, ⟨by (with_reducible repeat (first | refine blk_drewN ?_ _ | refine blk_drew ?_ | refine blk_alloc ?_ _)); refine blk_put (cs := #[.bool false, .slice none 0 0, .int .i64 0]) ?_ 2 _ rfl; (with_reducible repeat (first | refine blk_drewN ?_ _ | refine blk_drew ?_ | refine blk_alloc ?_ _)); refine blk_put (cs := #[.bool false, .slice none 0 0, .int .i64 0]) ?_ 1 _ rfl; (with_reducible repeat (first | refine blk_drewN ?_ _ | refine blk_drew ?_ | refine blk_alloc ?_ _)); refine blk_put (cs := #[.bool false, .slice none 0 0, .int .i64 0]) ?_ 0 _ rfl; (with_reducible repeat (first | refine blk_drewN ?_ _ | refine blk_drew ?_ | refine blk_alloc ?_ _)); exact BK581.out⟩, ⟨bes⟩⟩
        case round =>
         clear H'
         try clear c1
         try clear c2
         try clear p2
         try clear c4
         try clear c5
         try clear c6
         try clear p6
         try clear c7
         try clear c8
         try clear c9
         try clear c10
         try clear c11
         try clear c12
         try clear c13
         try clear c14
         try clear c18
         try clear c18b0
         try clear c21
         try clear c21b0
         try clear c24
         try clear c48
         try clear c53
         try clear c54
         try clear p64
         try clear c67
         try clear c70
         try clear c73
         try clear c73b0
         try clear c73b1
         try clear c73b2
         try clear c82
         try clear c83
         try clear c85
         try clear c89
         try clear c90
         try clear c94
         try clear c95
         try clear c96
         try clear hcz49_0
         try clear hcz49_1
         try clear hcz49_2
         try clear hcz49_3
         try clear hcz55_0
         try clear hcz55_1
         try clear hcz55_2
         try clear hcz68_0
         try clear hcz68_1
         try clear hcz68_2
         try clear hcz68_3
         try clear hcz71_0
         try clear hcz71_1
         try clear hcz71_2
         try clear hcz71_3
         try clear hcz86_0
         try clear hcz86_1
         try clear hcz86_2
         try clear hcz86_3
         try clear hcz91_0
         try clear hcz91_1
         try clear hcz91_2
         try clear hcz91_3
         try clear hcz97_0
         try clear hcz97_1
         try clear hcz97_2
         try clear hfz49_0
         try clear hfz49_1
         try clear hfz49_2
         try clear hfz49_3
         try clear hfz55_0
         try clear hfz55_1
         try clear hfz55_2
         try clear hfz68_0
         try clear hfz68_1
         try clear hfz68_2
         try clear hfz68_3
         try clear hfz71_0
         try clear hfz71_1
         try clear hfz71_2
         try clear hfz71_3
         try clear hfz86_0
         try clear hfz86_1
         try clear hfz86_2
         try clear hfz86_3
         try clear hfz91_0
         try clear hfz91_1
         try clear hfz91_2
         try clear hfz91_3
         try clear hfz97_0
         try clear hfz97_1
         try clear hfz97_2
         try clear p2
         try clear p6
         try clear p64
         obtain ⟨x19_3, x582000_3, x582001_3, x582002_3, u582001, rfl, HA, HK3, HO_537003, HO_538001, HO_581003, HO_582001, BK536, BK537, BK580, BK581, HB⟩ := hrel
         cases gk with
         | zero => exact absurd HA.out (by simp [gimballaw09_MatUnits.l2])
         | succ k3 =>
          have H := HA.out
          clear HA
          simp only [gimballaw09_MatUnits.l2] at H
          by_cases c98 : x19_3 < t530
          ·
           rw [if_pos c98] at H
           have c98b0 : decide (x19_3 < t530) = true := decide_eq_true c98
           clear c98
           have H' := Aside0.mk H
           clear H
           have hnb99 := NB536_537.out
           have hnc99 := NB537_536.out
           have hnb100 := NB536_580.out
           have hnc100 := NB580_536.out
           have hnb101 := NB536_581.out
           have hnc101 := NB581_536.out
           have hcz102_0 := bc BK536 0 rfl
           have hcz102_1 := bc BK536 1 rfl
           have hcz102_2 := bc BK536 2 rfl
           have hcz102_3 := bc BK536 3 rfl
           have hfz102_0 := blk_frozen BK536.out 0
           have hfz102_1 := blk_frozen BK536.out 1
           have hfz102_2 := blk_frozen BK536.out 2
           have hfz102_3 := blk_frozen BK536.out 3
           go_wp2
           go_loopg [20] k3 (fun kq v20 w' => ∃ (x20_4 : Int) (x582000_4 : Bool) (x582001_4 : List Int) (x582002_4 : Int) (u582001 : Value), v20 = .int .i64 x20_4 ∧ Aside0 (gimballaw09_MatUnits.l3 kq t579 x19_3 x20_4 t530 t531 t532 t533 t573 t574 t575 t576 x582000_4 x582001_4 x582002_4 = some r) ∧ Aside0 (kq ≤ k3) ∧ Aside0 (Kd.R (Kd.int .u64) 32 w' w.heap.size (fun k_ => some k_ ≠ ((.slice Ao92 t576.length co92) : Value).ownBlock) (.slice Ao14 t533.length co14) t533) ∧ Aside0 (Kd.V (Kd.int .u32) 56 w' w.heap.size (fun k_ => some k_ ≠ ((.slice Ao14 t533.length co14) : Value).ownBlock ∧ some k_ ≠ ((.slice Ao92 t576.length co92) : Value).ownBlock ∧ k_ ≠ gb536 ∧ k_ ≠ gb537 ∧ k_ ≠ gb580 ∧ k_ ≠ gb581) u538001 x538001_1) ∧ Aside0 (Kd.R (Kd.int .u64) 32 w' w.heap.size (fun k_ => some k_ ≠ ((.slice Ao14 t533.length co14) : Value).ownBlock) (.slice Ao92 t576.length co92) t576) ∧ Aside0 (Kd.V (Kd.int .u32) 56 w' w.heap.size (fun k_ => some k_ ≠ ((.slice Ao14 t533.length co14) : Value).ownBlock ∧ some k_ ≠ ((.slice Ao92 t576.length co92) : Value).ownBlock ∧ k_ ≠ gb536 ∧ k_ ≠ gb537 ∧ k_ ≠ gb580 ∧ k_ ≠ gb581) u582001 x582001_4) ∧ Aside0 (w'.heap[gb536]? = some (.cells #[.int .i64 t530, .int .i64 t531, .int .i64 t532, (.slice Ao14 t533.length co14)] 25 (0, 0))) ∧ Aside0 (w'.heap[gb537]? = some (.cells #[.bool x538000_1, u538001, .int .i64 x538002_1] 29 (0, 0))) ∧ Aside0 (w'.heap[gb580]? = some (.cells #[.int .i64 t573, .int .i64 t574, .int .i64 t575, (.slice Ao92 t576.length co92)] 25 (0, 0))) ∧ Aside0 (w'.heap[gb581]? = some (.cells #[.bool x582000_4, u582001, .int .i64 x582002_4] 29 (0, 0))) ∧ Aside0 (Below w.heap.size w w'))
           case atStart => exact ⟨(0), (x582000_3), (x582001_3), (x582002_3), (u582001), (by first | rfl | (simp; done) | (simp [*]; done)), H', ⟨Nat.le_refl _⟩, ⟨kr HO_537003⟩, ⟨kv HO_538001⟩, ⟨kr HO_581003⟩, ⟨kv HO_582001⟩, ⟨kb BK536⟩, ⟨kb BK537⟩, ⟨kb BK580⟩, ⟨kb BK581⟩, ⟨bes⟩⟩
           case round =>
            clear H'
            try clear c1
            try clear c2
            try clear p2
            try clear c4
            try clear c5
            try clear c6
            try clear p6
            try clear c7
            try clear c8
            try clear c9
            try clear c10
            try clear c11
            try clear c12
            try clear c13
            try clear c14
            try clear c18
            try clear c18b0
            try clear c21
            try clear c21b0
            try clear c24
            try clear c48
            try clear c53
            try clear c54
            try clear p64
            try clear c67
            try clear c70
            try clear c73
            try clear c73b0
            try clear c73b1
            try clear c73b2
            try clear c82
            try clear c83
            try clear c85
            try clear c89
            try clear c90
            try clear c94
            try clear c95
            try clear c96
            try clear c98
            try clear c98b0
            try clear c99
            try clear c100
            try clear c101
            try clear hcz102_0
            try clear hcz102_1
            try clear hcz102_2
            try clear hcz102_3
            try clear hcz49_0
            try clear hcz49_1
            try clear hcz49_2
            try clear hcz49_3
            try clear hcz55_0
            try clear hcz55_1
            try clear hcz55_2
            try clear hcz68_0
            try clear hcz68_1
            try clear hcz68_2
            try clear hcz68_3
            try clear hcz71_0
            try clear hcz71_1
            try clear hcz71_2
            try clear hcz71_3
            try clear hcz86_0
            try clear hcz86_1
            try clear hcz86_2
            try clear hcz86_3
            try clear hcz91_0
            try clear hcz91_1
            try clear hcz91_2
            try clear hcz91_3
            try clear hcz97_0
            try clear hcz97_1
            try clear hcz97_2
            try clear hfz102_0
            try clear hfz102_1
            try clear hfz102_2
            try clear hfz102_3
            try clear hfz49_0
            try clear hfz49_1
            try clear hfz49_2
            try clear hfz49_3
            try clear hfz55_0
            try clear hfz55_1
            try clear hfz55_2
            try clear hfz68_0
            try clear hfz68_1
            try clear hfz68_2
            try clear hfz68_3
            try clear hfz71_0
            try clear hfz71_1
            try clear hfz71_2
            try clear hfz71_3
            try clear hfz86_0
            try clear hfz86_1
            try clear hfz86_2
            try clear hfz86_3
            try clear hfz91_0
            try clear hfz91_1
            try clear hfz91_2
            try clear hfz91_3
            try clear hfz97_0
            try clear hfz97_1
            try clear hfz97_2
            try clear p2
            try clear p6
            try clear p64
            obtain ⟨x20_4, x582000_4, x582001_4, x582002_4, u582001, rfl, HA, HK4, HO_537003, HO_538001, HO_581003, HO_582001, BK536, BK537, BK580, BK581, HB⟩ := hrel
            cases gk with
            | zero => exact absurd HA.out (by simp [gimballaw09_MatUnits.l3])
            | succ k4 =>
             have H := HA.out
             clear HA
             simp only [gimballaw09_MatUnits.l3] at H
             by_cases c103 : x20_4 < t531
             ·
              rw [if_pos c103] at H
              have c103b0 : decide (x20_4 < t531) = true := decide_eq_true c103
              clear c103
              obtain ⟨t582, A1040, H⟩ := Option.bind_eq_some_iff.mp H
              (try dsimp -simprocs only at H)
              have A104 := Aside0.mk A1040
              clear A1040
              obtain ⟨⟨t583, t584, t587, t588⟩, A1050, H⟩ := Option.bind_eq_some_iff.mp H
              (try dsimp -simprocs only at H)
              have A105 := Aside0.mk A1050
              clear A1050
              obtain ⟨⟨t590, t591, t594⟩, A1060, H⟩ := Option.bind_eq_some_iff.mp H
              (try dsimp -simprocs only at H)
              have A106 := Aside0.mk A1060
              clear A1060
              obtain ⟨t595, A1070, H⟩ := Option.bind_eq_some_iff.mp H
              (try dsimp -simprocs only at H)
              have A107 := Aside0.mk A1070
              clear A1070
              have HC108 := Aside0.mk H
              clear H
              have hnb109 := NB536_537.out
              have hnc109 := NB537_536.out
              have hnb110 := NB536_580.out
              have hnc110 := NB580_536.out
              have hnb111 := NB536_581.out
              have hnc111 := NB581_536.out
              have hcz112_0 := bc BK536 0 rfl
              have hcz112_1 := bc BK536 1 rfl
              have hcz112_2 := bc BK536 2 rfl
              have hcz112_3 := bc BK536 3 rfl
              have hfz112_0 := blk_frozen BK536.out 0
              have hfz112_1 := blk_frozen BK536.out 1
              have hfz112_2 := blk_frozen BK536.out 2
              have hfz112_3 := blk_frozen BK536.out 3
              try go_wp2_with (first | ((with_reducible refine gate_callee (f := 8) rfl ?_); refine goesL_ (some 100) rfl rfl Tryd.func8 (by kernel_rfl) rfl #[.agg #[.int .i64 t530, .int .i64 t531, .int .i64 t532, .slice Ao14 t533.length co14], .int .i64 x19_3, .int .i64 x20_4] rfl ga ?_; (with_reducible refine (mat_Matrix_At.calls t530 t531 t532 _ _ t533 x19_3 x20_4 t582 _ ?side1 ?side2 A104.out).mono ?_); (case side1 => exact ks HO_537003); (case side2 => exact (Kd.R_reads' HO_537003.out).2.1); rintro e w113 ⟨rfl, hb⟩; refine ⟨_, rfl, ?_⟩; refine ax9 (Kd.R_below (kr HO_537003) hb) (Kd.V_below (kv HO_538001) hb) (Kd.R_below (kr HO_581003) hb) (Kd.V_below (kv HO_582001) hb) (bb BK536 hb) (bb BK537 hb) (bb BK580 hb) (bb BK581 hb) (below_step bes hb) ?_; clear HO_537003; clear HO_538001; clear HO_581003; clear HO_582001; clear BK536; clear BK537; clear BK580; clear BK581; clear HB; intro HO_537003 HO_538001 HO_581003 HO_582001 BK536 BK537 BK580 BK581 HB; (try clear hb)) | ((with_reducible refine gate_callee (f := 7) rfl ?_); refine goesL_ (some 101) rfl rfl Tryd.func7 (by kernel_rfl) rfl #[.int .u64 t582] rfl ga ?_; (with_reducible refine (dyad_Of.calls k4 t582 t583 t584 t587 t588 _ ?side1 A105.out).mono ?_); (case side1 => first | exact hT | exact TabW.drewN hT _ | exact TabW.drew hT | exact TabW.below hT bes); rintro e w114 ⟨v585, rfl, ho0, hb⟩; refine ⟨_, rfl, ?_⟩; refine ax10 (Kd.R_below (kr HO_537003) hb) (Kd.V_below (kv HO_538001) hb) (Kd.R_below (kr HO_581003) hb) (Kd.V_below (kv HO_582001) hb) (Kd.V_lower (Kd.V_mono (ok' := fun k_ => some k_ ≠ (.slice Ao14 t533.length co14 : Value).ownBlock ∧ some k_ ≠ (.slice Ao92 t576.length co92 : Value).ownBlock ∧ k_ ≠ gb536 ∧ k_ ≠ gb537 ∧ k_ ≠ gb580 ∧ k_ ≠ gb581) ho0 (fun k_ hk_ => ⟨(Kd.fresh' (Kd.R_lt (kr HO_537003)) k_ hk_), (Kd.fresh' (Kd.R_lt (kr HO_581003)) k_ hk_), (fb BK536 k_ hk_), (fb BK537 k_ hk_), (fb BK580 k_ hk_), (fb BK581 k_ hk_)⟩)) (below_size bes)) (bb BK536 hb) (bb BK537 hb) (bb BK580 hb) (bb BK581 hb) (below_step bes hb) ?_; clear HO_537003; clear HO_538001; clear HO_581003; clear HO_582001; clear BK536; clear BK537; clear BK580; clear BK581; clear HB; intro HO_537003 HO_538001 HO_581003 HO_582001 HO586 BK536 BK537 BK580 BK581 HB; (try clear hb); (try clear ho0)) | ((with_reducible refine gate_dst (N := 21) rfl ?_); refine gbox (N := 21) (cs := #[.bool false, .slice none 0 0, .int .i64 0]) (t := 29) ?_; intro gb589 hg w115 hbox hb; refine ax21 (Kd.R_below (kr HO_537003) hb) (Kd.V_below (Kd.V_elderB (kv HO_538001) gb589 (Nat.le_of_eq hg.symm)) hb) (Kd.R_below (kr HO_581003) hb) (Kd.V_below (Kd.V_elderB (kv HO_582001) gb589 (Nat.le_of_eq hg.symm)) hb) (Kd.V_below (Kd.V_elderB (kv HO586) gb589 (Nat.le_of_eq hg.symm)) hb) (bb BK536 hb) (bb BK537 hb) (bb BK580 hb) (bb BK581 hb) (below_step bes hb) hbox ((ge hg : w.heap.size ≤ gb589)) ((ge hg : w.heap.size ≤ gb589)) (nl hg BK536) (ng hg BK536) (nl hg BK537) (ng hg BK537) (nl hg BK580) (ng hg BK580) (nl hg BK581) (ng hg BK581) ?_; clear HO_537003; clear HO_538001; clear HO_581003; clear HO_582001; clear HO586; clear BK536; clear BK537; clear BK580; clear BK581; clear HB; intro HO_537003 HO_538001 HO_581003 HO_582001 HO586 BK536 BK537 BK580 BK581 HB BK589 GW589 GE589 NB536_589 NB589_536 NB537_589 NB589_537 NB580_589 NB589_580 NB581_589 NB589_581; clear hb hbox hg; have hnb116 := NB589_536.out; have hnc116 := NB536_589.out; have hnb117 := NB589_537.out; have hnc117 := NB537_589.out; have hnb118 := NB589_580.out; have hnc118 := NB580_589.out; have hnb119 := NB589_581.out; have hnc119 := NB581_589.out; have hcz120_0 := bc BK589 0 rfl; have hcz120_1 := bc BK589 1 rfl; have hcz120_2 := bc BK589 2 rfl; have hfz120_0 := blk_frozen BK589.out 0; have hfz120_1 := blk_frozen BK589.out 1; have hfz120_2 := blk_frozen BK589.out 2; obtain ⟨Ao121, co121, eo121⟩ := Kd.V_slice HO586.out; subst eo121))
              have n0_ : Aside0 (Kd.R (Kd.int .u64) 32 (((w115.setCell ⟨gb589, 0, none⟩ (.bool t583)).setCell ⟨gb589, 1, none⟩ (.slice Ao121 t584.length co121)).setCell ⟨gb589, 2, none⟩ (.int .i64 t587)) w.heap.size (fun k_ => some k_ ≠ (.slice Ao92 t576.length co92 : Value).ownBlock) (.slice Ao14 t533.length co14) t533) := ⟨by (with_reducible repeat (first | apply Kd.R_alloc | apply Kd.R_drewN | apply Kd.R_drew)); exact Kd.R_mono (Kd.R_far (p := ⟨gb589, 2, none⟩) (Kd.R_far (p := ⟨gb589, 1, none⟩) (Kd.R_far (p := ⟨gb589, 0, none⟩) (Kd.R_types HO_537003.out BK589.out (by decide)) (fun _ hk => hk.2) (.bool t583)) (fun _ hk => hk.2) (.slice Ao121 t584.length co121)) (fun _ hk => hk.2) (.int .i64 t587)) (fun _ hk => hk.1)⟩
              have n1_ : Aside0 (Kd.V (Kd.int .u32) 56 (((w115.setCell ⟨gb589, 0, none⟩ (.bool t583)).setCell ⟨gb589, 1, none⟩ (.slice Ao121 t584.length co121)).setCell ⟨gb589, 2, none⟩ (.int .i64 t587)) w.heap.size (fun k_ => some k_ ≠ (.slice Ao14 t533.length co14 : Value).ownBlock ∧ some k_ ≠ (.slice Ao92 t576.length co92 : Value).ownBlock ∧ k_ ≠ gb536 ∧ k_ ≠ gb537 ∧ k_ ≠ gb580 ∧ k_ ≠ gb581 ∧ k_ ≠ gb589) u538001 x538001_1) := ⟨by (with_reducible repeat (first | apply Kd.V_alloc | apply Kd.V_drewN | apply Kd.V_drew)); exact Kd.V_mono (Kd.V_far (p := ⟨gb589, 2, none⟩) (Kd.V_far (p := ⟨gb589, 1, none⟩) (Kd.V_far (p := ⟨gb589, 0, none⟩) (Kd.V_mono HO_538001.out (fun k_ hk => (⟨hk, hk.2⟩ : _ ∧ k_ ≠ gb589))) (fun _ hk => hk.2) (.bool t583)) (fun _ hk => hk.2) (.slice Ao121 t584.length co121)) (fun _ hk => hk.2) (.int .i64 t587)) (fun _ hk => ⟨hk.1.1.1, ⟨hk.1.1.2.1, ⟨hk.1.1.2.2.1, ⟨hk.1.1.2.2.2.1, ⟨hk.1.1.2.2.2.2.1, ⟨hk.1.1.2.2.2.2.2, hk.1.2⟩⟩⟩⟩⟩⟩)⟩
              have n2_ : Aside0 (Kd.R (Kd.int .u64) 32 (((w115.setCell ⟨gb589, 0, none⟩ (.bool t583)).setCell ⟨gb589, 1, none⟩ (.slice Ao121 t584.length co121)).setCell ⟨gb589, 2, none⟩ (.int .i64 t587)) w.heap.size (fun k_ => some k_ ≠ (.slice Ao14 t533.length co14 : Value).ownBlock) (.slice Ao92 t576.length co92) t576) := ⟨by (with_reducible repeat (first | apply Kd.R_alloc | apply Kd.R_drewN | apply Kd.R_drew)); exact Kd.R_mono (Kd.R_far (p := ⟨gb589, 2, none⟩) (Kd.R_far (p := ⟨gb589, 1, none⟩) (Kd.R_far (p := ⟨gb589, 0, none⟩) (Kd.R_types HO_581003.out BK589.out (by decide)) (fun _ hk => hk.2) (.bool t583)) (fun _ hk => hk.2) (.slice Ao121 t584.length co121)) (fun _ hk => hk.2) (.int .i64 t587)) (fun _ hk => hk.1)⟩
              have n3_ : Aside0 (Kd.V (Kd.int .u32) 56 (((w115.setCell ⟨gb589, 0, none⟩ (.bool t583)).setCell ⟨gb589, 1, none⟩ (.slice Ao121 t584.length co121)).setCell ⟨gb589, 2, none⟩ (.int .i64 t587)) w.heap.size (fun k_ => some k_ ≠ (.slice Ao14 t533.length co14 : Value).ownBlock ∧ some k_ ≠ (.slice Ao92 t576.length co92 : Value).ownBlock ∧ k_ ≠ gb536 ∧ k_ ≠ gb537 ∧ k_ ≠ gb580 ∧ k_ ≠ gb581 ∧ k_ ≠ gb589) u582001 x582001_4) := ⟨by (with_reducible repeat (first | apply Kd.V_alloc | apply Kd.V_drewN | apply Kd.V_drew)); exact Kd.V_mono (Kd.V_far (p := ⟨gb589, 2, none⟩) (Kd.V_far (p := ⟨gb589, 1, none⟩) (Kd.V_far (p := ⟨gb589, 0, none⟩) (Kd.V_mono HO_582001.out (fun k_ hk => (⟨hk, hk.2⟩ : _ ∧ k_ ≠ gb589))) (fun _ hk => hk.2) (.bool t583)) (fun _ hk => hk.2) (.slice Ao121 t584.length co121)) (fun _ hk => hk.2) (.int .i64 t587)) (fun _ hk => ⟨hk.1.1.1, ⟨hk.1.1.2.1, ⟨hk.1.1.2.2.1, ⟨hk.1.1.2.2.2.1, ⟨hk.1.1.2.2.2.2.1, ⟨hk.1.1.2.2.2.2.2, hk.1.2⟩⟩⟩⟩⟩⟩)⟩
              have n4_ : Aside0 (Kd.V (Kd.int .u32) 56 (((w115.setCell ⟨gb589, 0, none⟩ (.bool t583)).setCell ⟨gb589, 1, none⟩ (.slice Ao121 t584.length co121)).setCell ⟨gb589, 2, none⟩ (.int .i64 t587)) w.heap.size (fun k_ => some k_ ≠ (.slice Ao14 t533.length co14 : Value).ownBlock ∧ some k_ ≠ (.slice Ao92 t576.length co92 : Value).ownBlock ∧ k_ ≠ gb536 ∧ k_ ≠ gb537 ∧ k_ ≠ gb580 ∧ k_ ≠ gb581 ∧ k_ ≠ gb589) (.slice Ao121 t584.length co121) t584) := ⟨by (with_reducible repeat (first | apply Kd.V_alloc | apply Kd.V_drewN | apply Kd.V_drew)); exact Kd.V_mono (Kd.V_far (p := ⟨gb589, 2, none⟩) (Kd.V_far (p := ⟨gb589, 1, none⟩) (Kd.V_far (p := ⟨gb589, 0, none⟩) (Kd.V_mono HO586.out (fun k_ hk => (⟨hk, hk.2⟩ : _ ∧ k_ ≠ gb589))) (fun _ hk => hk.2) (.bool t583)) (fun _ hk => hk.2) (.slice Ao121 t584.length co121)) (fun _ hk => hk.2) (.int .i64 t587)) (fun _ hk => ⟨hk.1.1.1, ⟨hk.1.1.2.1, ⟨hk.1.1.2.2.1, ⟨hk.1.1.2.2.2.1, ⟨hk.1.1.2.2.2.2.1, ⟨hk.1.1.2.2.2.2.2, hk.1.2⟩⟩⟩⟩⟩⟩)⟩
              have n5_ : Aside0 ((((w115.setCell ⟨gb589, 0, none⟩ (.bool t583)).setCell ⟨gb589, 1, none⟩ (.slice Ao121 t584.length co121)).setCell ⟨gb589, 2, none⟩ (.int .i64 t587)).heap[gb536]? = some (.cells #[.int .i64 t530, .int .i64 t531, .int .i64 t532, .slice Ao14 t533.length co14] 25 (0, 0))) := ⟨by (with_reducible repeat (first | refine blk_drewN ?_ _ | refine blk_drew ?_ | refine blk_alloc ?_ _)); refine blk_far ?_ NB536_589.out _; (with_reducible repeat (first | refine blk_drewN ?_ _ | refine blk_drew ?_ | refine blk_alloc ?_ _)); refine blk_far ?_ NB536_589.out _; (with_reducible repeat (first | refine blk_drewN ?_ _ | refine blk_drew ?_ | refine blk_alloc ?_ _)); refine blk_far ?_ NB536_589.out _; (with_reducible repeat (first | refine blk_drewN ?_ _ | refine blk_drew ?_ | refine blk_alloc ?_ _)); exact BK536.out⟩
              have n6_ : Aside0 ((((w115.setCell ⟨gb589, 0, none⟩ (.bool t583)).setCell ⟨gb589, 1, none⟩ (.slice Ao121 t584.length co121)).setCell ⟨gb589, 2, none⟩ (.int .i64 t587)).heap[gb537]? = some (.cells #[.bool x538000_1, u538001, .int .i64 x538002_1] 29 (0, 0))) := ⟨by (with_reducible repeat (first | refine blk_drewN ?_ _ | refine blk_drew ?_ | refine blk_alloc ?_ _)); refine blk_far ?_ NB537_589.out _; (with_reducible repeat (first | refine blk_drewN ?_ _ | refine blk_drew ?_ | refine blk_alloc ?_ _)); refine blk_far ?_ NB537_589.out _; (with_reducible repeat (first | refine blk_drewN ?_ _ | refine blk_drew ?_ | refine blk_alloc ?_ _)); refine blk_far ?_ NB537_589.out _; (with_reducible repeat (first | refine blk_drewN ?_ _ | refine blk_drew ?_ | refine blk_alloc ?_ _)); exact BK537.out⟩
              have n7_ : Aside0 ((((w115.setCell ⟨gb589, 0, none⟩ (.bool t583)).setCell ⟨gb589, 1, none⟩ (.slice Ao121 t584.length co121)).setCell ⟨gb589, 2, none⟩ (.int .i64 t587)).heap[gb580]? = some (.cells #[.int .i64 t573, .int .i64 t574, .int .i64 t575, .slice Ao92 t576.length co92] 25 (0, 0))) := ⟨by (with_reducible repeat (first | refine blk_drewN ?_ _ | refine blk_drew ?_ | refine blk_alloc ?_ _)); refine blk_far ?_ NB580_589.out _; (with_reducible repeat (first | refine blk_drewN ?_ _ | refine blk_drew ?_ | refine blk_alloc ?_ _)); refine blk_far ?_ NB580_589.out _; (with_reducible repeat (first | refine blk_drewN ?_ _ | refine blk_drew ?_ | refine blk_alloc ?_ _)); refine blk_far ?_ NB580_589.out _; (with_reducible repeat (first | refine blk_drewN ?_ _ | refine blk_drew ?_ | refine blk_alloc ?_ _)); exact BK580.out⟩
              have n8_ : Aside0 ((((w115.setCell ⟨gb589, 0, none⟩ (.bool t583)).setCell ⟨gb589, 1, none⟩ (.slice Ao121 t584.length co121)).setCell ⟨gb589, 2, none⟩ (.int .i64 t587)).heap[gb581]? = some (.cells #[.bool x582000_4, u582001, .int .i64 x582002_4] 29 (0, 0))) := ⟨by (with_reducible repeat (first | refine blk_drewN ?_ _ | refine blk_drew ?_ | refine blk_alloc ?_ _)); refine blk_far ?_ NB581_589.out _; (with_reducible repeat (first | refine blk_drewN ?_ _ | refine blk_drew ?_ | refine blk_alloc ?_ _)); refine blk_far ?_ NB581_589.out _; (with_reducible repeat (first | refine blk_drewN ?_ _ | refine blk_drew ?_ | refine blk_alloc ?_ _)); refine blk_far ?_ NB581_589.out _; (with_reducible repeat (first | refine blk_drewN ?_ _ | refine blk_drew ?_ | refine blk_alloc ?_ _)); exact BK581.out⟩
              have n9_ : Aside0 ((((w115.setCell ⟨gb589, 0, none⟩ (.bool t583)).setCell ⟨gb589, 1, none⟩ (.slice Ao121 t584.length co121)).setCell ⟨gb589, 2, none⟩ (.int .i64 t587)).heap[gb589]? = some (.cells #[.bool t583, .slice Ao121 t584.length co121, .int .i64 t587] 29 (0, 0))) := ⟨by (with_reducible repeat (first | refine blk_drewN ?_ _ | refine blk_drew ?_ | refine blk_alloc ?_ _)); refine blk_put (cs := #[.bool t583, .slice Ao121 t584.length co121, .int .i64 0]) ?_ 2 _ rfl; (with_reducible repeat (first | refine blk_drewN ?_ _ | refine blk_drew ?_ | refine blk_alloc ?_ _)); refine blk_put (cs := #[.bool t583, .slice none 0 0, .int .i64 0]) ?_ 1 _ rfl; (with_reducible repeat (first | refine blk_drewN ?_ _ | refine blk_drew ?_ | refine blk_alloc ?_ _)); refine blk_put (cs := #[.bool false, .slice none 0 0, .int .i64 0]) ?_ 0 _ rfl; (with_reducible repeat (first | refine blk_drewN ?_ _ | refine blk_drew ?_ | refine blk_alloc ?_ _)); exact BK589.out⟩
              have n10_ : Aside0 (Below w.heap.size w (((w115.setCell ⟨gb589, 0, none⟩ (.bool t583)).setCell ⟨gb589, 1, none⟩ (.slice Ao121 t584.length co121)).setCell ⟨gb589, 2, none⟩ (.int .i64 t587))) := ⟨bes⟩
              (try clear HO_537003)
              (try clear HO_538001)
              (try clear HO_581003)
              (try clear HO_582001)
              (try clear HO586)
              (try clear BK536)
              (try clear BK537)
              (try clear BK580)
              (try clear BK581)
              (try clear BK589)
              (try clear HB)
              generalize (((w115.setCell ⟨gb589, 0, none⟩ (.bool t583)).setCell ⟨gb589, 1, none⟩ (.slice Ao121 t584.length co121)).setCell ⟨gb589, 2, none⟩ (.int .i64 t587)) = w122 at n0_ n1_ n2_ n3_ n4_ n5_ n6_ n7_ n8_ n9_ n10_ ⊢
              have HO_537003 := n0_
              have HO_538001 := n1_
              have HO_581003 := n2_
              have HO_582001 := n3_
              have HO586 := n4_
              have BK536 := n5_
              have BK537 := n6_
              have BK580 := n7_
              have BK581 := n8_
              have BK589 := n9_
              have HB := n10_
              clear n0_ n1_ n2_ n3_ n4_ n5_ n6_ n7_ n8_ n9_ n10_
              refine ax11 (Kd.R_drew HO_537003.out) (Kd.V_drew HO_538001.out) (Kd.R_drew HO_581003.out) (Kd.V_drew HO_582001.out) (Kd.V_drew HO586.out) (blk_drew BK536.out) (blk_drew BK537.out) (blk_drew BK580.out) (blk_drew BK581.out) (blk_drew BK589.out) (below_drew1 HB.out) ?_
              clear HO_537003 HO_538001 HO_581003 HO_582001 HO586 BK536 BK537 BK580 BK581 BK589 HB
              intro HO_537003 HO_538001 HO_581003 HO_582001 HO586 BK536 BK537 BK580 BK581 BK589 HB
              refine start_ (n := 5) (S := fun w' => w'.cell? ⟨gb589, 0, none⟩ = some (.bool t583) ∧ w'.cell? ⟨gb589, 1, none⟩ = some (.slice Ao121 t584.length co121) ∧ w'.cell? ⟨gb589, 2, none⟩ = some (.int .i64 t587) ∧ w'.cell? ⟨gb581, 0, none⟩ = some (.bool x582000_4) ∧ w'.cell? ⟨gb581, 1, none⟩ = some (u582001) ∧ w'.cell? ⟨gb581, 2, none⟩ = some (.int .i64 x582002_4)) (ds := []) #[false, false, false, false, false] (by kernel_rfl) rfl rfl ⟨(blk_cell BK589.out 0).trans rfl, (blk_cell BK589.out 1).trans rfl, (blk_cell BK589.out 2).trans rfl, (blk_cell BK581.out 0).trans rfl, (blk_cell BK581.out 1).trans rfl, (blk_cell BK581.out 2).trans rfl⟩ (fun hHeld => ?_)
              generalize w122.drew = w123 at HO_537003 HO_538001 HO_581003 HO_582001 HO586 BK536 BK537 BK580 BK581 BK589 HB hHeld ⊢
              refine take_ (i := 0) (N := some 104) (v := ?_) (a' := ?_) #[true, false, false, false, false] rfl rfl (by kernel_rfl) (fun _ _ _ h => h) (Or.inl ⟨by rfl, ?_⟩) hHeld ?_ ?_
              rotate_left
              ·
               rintro w' ⟨s0, s1, s2, s3, s4, s5⟩
               go_simp
               with_reducible rfl
              rotate_left
              ·
               simp only [Act.put, sa0, sa1, sa2, i64_w, i32_w]
               rfl
              refine take_ (i := 2) (N := some 106) (v := ?_) (a' := ?_) #[true, false, true, false, false] rfl rfl (by kernel_rfl) (fun _ _ _ h => h) (Or.inl ⟨by rfl, ?_⟩) hHeld ?_ ?_
              rotate_left
              ·
               rintro w' ⟨s0, s1, s2, s3, s4, s5⟩
               go_simp
               with_reducible rfl
              rotate_left
              ·
               simp only [Act.put, sa0, sa1, sa2, i64_w, i32_w]
               rfl
              refine one_ (i := 1) (N := some 105) #[true, true, true, false, false] rfl rfl (by kernel_rfl) (by decide) (fun K hK => ?_)
              refine goes_ Tryd.func15 (by kernel_rfl) rfl #[.agg #[.bool t583, .slice Ao121 t584.length co121, .int .i64 t587]] (by rfl) rfl rfl ga ?_
              with_reducible refine (dyad_Num_Abs.calls t583 (fun k_ => (some k_ ≠ (.slice Ao14 t533.length co14 : Value).ownBlock ∧ (some k_ ≠ (.slice Ao92 t576.length co92 : Value).ownBlock ∧ (k_ ≠ gb536 ∧ (k_ ≠ gb537 ∧ (k_ ≠ gb580 ∧ (k_ ≠ gb581 ∧ k_ ≠ gb589))))))) _ _ t584 t587 t590 t591 t594 _ ?side1 A106.out).mono ?_
              (case side1 => exact HO586.out)
              rintro e w124 ⟨v592, rfl, ho0, hb⟩
              refine ⟨_, rfl, ?_⟩
              refine ax12 (Kd.R_below (kr HO_537003) hb) (Kd.V_below (kv HO_538001) hb) (Kd.R_below (kr HO_581003) hb) (Kd.V_below (kv HO_582001) hb) (Kd.V_below (kv HO586) hb) (Kd.V_lower (Kd.V_mono (ok' := fun k_ => some k_ ≠ (.slice Ao14 t533.length co14 : Value).ownBlock ∧ some k_ ≠ (.slice Ao92 t576.length co92 : Value).ownBlock ∧ k_ ≠ gb536 ∧ k_ ≠ gb537 ∧ k_ ≠ gb580 ∧ k_ ≠ gb581 ∧ k_ ≠ gb589) ho0 (fun k_ hk_ => ⟨Or.elim hk_ (fun hs_ => hs_.1) (fun hn_ => (Kd.fresh' (Kd.R_lt (kr HO_537003)) k_ hn_)), Or.elim hk_ (fun hs_ => hs_.2.1) (fun hn_ => (Kd.fresh' (Kd.R_lt (kr HO_581003)) k_ hn_)), Or.elim hk_ (fun hs_ => hs_.2.2.1) (fun hn_ => (fb BK536 k_ hn_)), Or.elim hk_ (fun hs_ => hs_.2.2.2.1) (fun hn_ => (fb BK537 k_ hn_)), Or.elim hk_ (fun hs_ => hs_.2.2.2.2.1) (fun hn_ => (fb BK580 k_ hn_)), Or.elim hk_ (fun hs_ => hs_.2.2.2.2.2.1) (fun hn_ => (fb BK581 k_ hn_)), Or.elim hk_ (fun hs_ => hs_.2.2.2.2.2.2) (fun hn_ => (fb BK589 k_ hn_))⟩)) (below_size bes)) (bb BK536 hb) (bb BK537 hb) (bb BK580 hb) (bb BK581 hb) (bb BK589 hb) (below_step bes hb) ?_
              clear HO_537003 HO_538001 HO_581003 HO_582001 HO586 BK536 BK537 BK580 BK581 BK589 HB
              intro HO_537003 HO_538001 HO_581003 HO_582001 HO586 HO593 BK536 BK537 BK580 BK581 BK589 HB
              (try clear hb)
              (try clear hb2)
              (try clear hk)
              (try clear hi)
              (try clear ho0)
              obtain ⟨Ao125, co125, eo125⟩ := Kd.V_slice HO593.out
              (first | subst eo125 | (injection eo125 with f1_ f2_ f3_; have f4_ := f1_.symm; have f5_ := f3_.symm; clear f1_ f2_ f3_; subst f4_; subst f5_))
              obtain ⟨Ao126, co126, eo126⟩ := Kd.V_slice HO_582001.out
              (first | subst eo126 | (injection eo126 with f1_ f2_ f3_; have f4_ := f1_.symm; have f5_ := f3_.symm; clear f1_ f2_ f3_; subst f4_; subst f5_))
              refine hK.out _ _ ⟨(blk_cell BK589.out 0).trans rfl, (blk_cell BK589.out 1).trans rfl, (blk_cell BK589.out 2).trans rfl, (blk_cell BK581.out 0).trans rfl, (blk_cell BK581.out 1).trans rfl, (blk_cell BK581.out 2).trans rfl⟩ (fun hHeld => ?_)
              clear hK K
              refine norm_ (a' := ?_) ?_ ?_
              rotate_left
              ·
               show Act.put _ (some 105) _ = _
               simp only [Act.put, sa0, sa1, sa2, i64_w, i32_w]
               rfl
              refine one_ (i := 3) (N := some 107) #[true, true, true, true, false] rfl rfl (by kernel_rfl) (by decide) (fun K hK => ?_)
              refine goes_ Tryd.func16 (by kernel_rfl) rfl #[.agg #[.bool t590, .slice Ao125 t591.length co125, .int .i64 t594], .agg #[.bool x582000_4, .slice Ao126 x582001_4.length co126, .int .i64 x582002_4]] (by rfl) rfl rfl ga ?_
              with_reducible refine (dyad_Num_Cmp.calls k4 t590 _ _ t591 t594 x582000_4 _ _ x582001_4 x582002_4 t595 _ ?side1 ?side2 ?side3 ?side4 ?side5 A107.out).mono ?_
              (case side1 => exact kvs HO593)
              (case side2 => exact (Kd.V_reads' HO593.out).2.1)
              (case side3 => exact kvs HO_582001)
              (case side4 => exact (Kd.V_reads' HO_582001.out).2.1)
              (case side5 => first | exact hT | exact TabW.drewN hT _ | exact TabW.drew hT | exact TabW.below hT bes)
              rintro e w127 ⟨rfl, hb⟩
              refine ⟨_, rfl, ?_⟩
              refine ax12 (Kd.R_below (kr HO_537003) hb) (Kd.V_below (kv HO_538001) hb) (Kd.R_below (kr HO_581003) hb) (Kd.V_below (kv HO_582001) hb) (Kd.V_below (kv HO586) hb) (Kd.V_below (kv HO593) hb) (bb BK536 hb) (bb BK537 hb) (bb BK580 hb) (bb BK581 hb) (bb BK589 hb) (below_step bes hb) ?_
              clear HO_537003 HO_538001 HO_581003 HO_582001 HO586 HO593 BK536 BK537 BK580 BK581 BK589 HB
              intro HO_537003 HO_538001 HO_581003 HO_582001 HO586 HO593 BK536 BK537 BK580 BK581 BK589 HB
              (try clear hb)
              (try clear hb2)
              (try clear hk)
              (try clear hi)
              refine hK.out _ _ ⟨(blk_cell BK589.out 0).trans rfl, (blk_cell BK589.out 1).trans rfl, (blk_cell BK589.out 2).trans rfl, (blk_cell BK581.out 0).trans rfl, (blk_cell BK581.out 1).trans rfl, (blk_cell BK581.out 2).trans rfl⟩ (fun hHeld => ?_)
              clear hK K
              refine norm_ (a' := ?_) ?_ ?_
              rotate_left
              ·
               show Act.put _ (some 107) _ = _
               simp only [Act.put, sa0, sa1, sa2, i64_w, i32_w]
               rfl
              refine pure_ (i := 4) (N := some 108) (v := ?_) (a' := ?_) #[true, true, true, true, true] rfl rfl (by kernel_rfl) (fun _ _ _ h => h) (Or.inl ⟨by rfl, ?_⟩) ?_ ?_
              rotate_left
              ·
               intro w'
               go_simp
               with_reducible rfl
              rotate_left
              ·
               simp only [Act.put, sa0, sa1, sa2, i64_w, i32_w]
               rfl
              refine done_ (by kernel_rfl) ?_
              go_upto_if 108 with (fail)
              go_cut [] (fun wc => ∃ (kq : Nat) (x582000_107 : Bool) (x582001_107 : List Int) (x582002_107 : Int) (u582001 : Value), Aside0 (gimballaw09_MatUnits.j5 kq t579 x19_3 x20_4 t530 t531 t532 t533 t573 t574 t575 t576 x582000_107 x582001_107 x582002_107 = some r) ∧ Aside0 (kq ≤ k4) ∧ Aside0 (Kd.R (Kd.int .u64) 32 wc w.heap.size (fun k_ => some k_ ≠ ((.slice Ao92 t576.length co92) : Value).ownBlock) (.slice Ao14 t533.length co14) t533) ∧ Aside0 (Kd.V (Kd.int .u32) 56 wc w.heap.size (fun k_ => some k_ ≠ ((.slice Ao14 t533.length co14) : Value).ownBlock ∧ some k_ ≠ ((.slice Ao92 t576.length co92) : Value).ownBlock ∧ k_ ≠ gb536 ∧ k_ ≠ gb537 ∧ k_ ≠ gb580 ∧ k_ ≠ gb581 ∧ k_ ≠ gb589) u538001 x538001_1) ∧ Aside0 (Kd.R (Kd.int .u64) 32 wc w.heap.size (fun k_ => some k_ ≠ ((.slice Ao14 t533.length co14) : Value).ownBlock) (.slice Ao92 t576.length co92) t576) ∧ Aside0 (Kd.V (Kd.int .u32) 56 wc w.heap.size (fun k_ => some k_ ≠ ((.slice Ao14 t533.length co14) : Value).ownBlock ∧ some k_ ≠ ((.slice Ao92 t576.length co92) : Value).ownBlock ∧ k_ ≠ gb536 ∧ k_ ≠ gb537 ∧ k_ ≠ gb580 ∧ k_ ≠ gb581 ∧ k_ ≠ gb589) u582001 x582001_107) ∧ Aside0 (Kd.V (Kd.int .u32) 56 wc w.heap.size (fun k_ => some k_ ≠ ((.slice Ao14 t533.length co14) : Value).ownBlock ∧ some k_ ≠ ((.slice Ao92 t576.length co92) : Value).ownBlock ∧ k_ ≠ gb536 ∧ k_ ≠ gb537 ∧ k_ ≠ gb580 ∧ k_ ≠ gb581 ∧ k_ ≠ gb589) (.slice Ao121 t584.length co121) t584) ∧ Aside0 (wc.heap[gb536]? = some (.cells #[.int .i64 t530, .int .i64 t531, .int .i64 t532, (.slice Ao14 t533.length co14)] 25 (0, 0))) ∧ Aside0 (wc.heap[gb537]? = some (.cells #[.bool x538000_1, u538001, .int .i64 x538002_1] 29 (0, 0))) ∧ Aside0 (wc.heap[gb580]? = some (.cells #[.int .i64 t573, .int .i64 t574, .int .i64 t575, (.slice Ao92 t576.length co92)] 25 (0, 0))) ∧ Aside0 (wc.heap[gb581]? = some (.cells #[.bool x582000_107, u582001, .int .i64 x582002_107] 29 (0, 0))) ∧ Aside0 (wc.heap[gb589]? = some (.cells #[.bool t583, (.slice Ao121 t584.length co121), .int .i64 t587] 29 (0, 0))) ∧ Aside0 (Below w.heap.size w wc))
              case first =>
               have H := HC108.out
               clear HC108
               by_cases c128 : t595 > 0
               rotate_left
               ·
                rw [if_neg c128] at H
                have c128b0 : decide (0 < t595) = false := decide_eq_false c128
                clear c128
                (first | rw [c128b0] | (simp only [i64_w, i32_w]; rw [c128b0]) | skip)
                have H' := Aside0.mk H
                clear H
                go_wp2
                go_meet
                case rel => exact ⟨_, (x582000_4), (x582001_4), (x582002_4), (.slice Ao126 x582001_4.length co126), H', ⟨by have := HK1.out; have := HJ68.out; have := HK3.out; have := HK4.out; first | omega | exact Nat.le_refl _⟩, ⟨kr HO_537003⟩, ⟨kv HO_538001⟩, ⟨kr HO_581003⟩, ⟨kv HO_582001⟩, ⟨kv HO586⟩, ⟨kb BK536⟩, ⟨kb BK537⟩, ⟨kb BK580⟩, ⟨kb BK581⟩, ⟨kb BK589⟩, ⟨bes⟩⟩
               rw [if_pos c128] at H
               have c128b0 : decide (0 < t595) = true := decide_eq_true c128
               clear c128
               (first | rw [c128b0] | (simp only [i64_w, i32_w]; rw [c128b0]) | skip)
               obtain ⟨⟨t596, t597, t600⟩, A1290, H⟩ := Option.bind_eq_some_iff.mp H
               (try dsimp -simprocs only at H)
               have A129 := Aside0.mk A1290
               clear A1290
               have H' := Aside0.mk H
               clear H
               have hnb130 := NB589_536.out
               have hnc130 := NB536_589.out
               have hnb131 := NB589_537.out
               have hnc131 := NB537_589.out
               have hnb132 := NB589_580.out
               have hnc132 := NB580_589.out
               have hnb133 := NB589_581.out
               have hnc133 := NB581_589.out
               have hcz134_0 := bc BK589 0 rfl
               have hcz134_1 := bc BK589 1 rfl
               have hcz134_2 := bc BK589 2 rfl
               have hfz134_0 := blk_frozen BK589.out 0
               have hfz134_1 := blk_frozen BK589.out 1
               have hfz134_2 := blk_frozen BK589.out 2
               go_wp2_with (first | ((with_reducible refine gate_callee (f := 15) rfl ?_); refine goesL_ (some 110) rfl rfl Tryd.func15 (by kernel_rfl) rfl #[.agg #[.bool t583, .slice Ao121 t584.length co121, .int .i64 t587]] rfl ga ?_; (with_reducible refine (dyad_Num_Abs.calls t583 (fun k_ => (some k_ ≠ (.slice Ao14 t533.length co14 : Value).ownBlock ∧ (some k_ ≠ (.slice Ao92 t576.length co92 : Value).ownBlock ∧ (k_ ≠ gb536 ∧ (k_ ≠ gb537 ∧ (k_ ≠ gb580 ∧ (k_ ≠ gb581 ∧ k_ ≠ gb589))))))) _ _ t584 t587 t596 t597 t600 _ ?side1 A129.out).mono ?_); (case side1 => exact HO586.out); rintro e w135 ⟨v598, rfl, ho0, hb⟩; refine ⟨_, rfl, ?_⟩; refine ax13 (Kd.R_below (kr HO_537003) hb) (Kd.V_below (kv HO_538001) hb) (Kd.R_below (kr HO_581003) hb) (Kd.V_below (kv HO_582001) hb) (Kd.V_below (kv HO586) hb) (Kd.V_below (kv HO593) hb) (Kd.V_lower (Kd.V_mono (ok' := fun k_ => some k_ ≠ (.slice Ao14 t533.length co14 : Value).ownBlock ∧ some k_ ≠ (.slice Ao92 t576.length co92 : Value).ownBlock ∧ k_ ≠ gb536 ∧ k_ ≠ gb537 ∧ k_ ≠ gb580 ∧ k_ ≠ gb581 ∧ k_ ≠ gb589) ho0 (fun k_ hk_ => ⟨Or.elim hk_ (fun hs_ => hs_.1) (fun hn_ => (Kd.fresh' (Kd.R_lt (kr HO_537003)) k_ hn_)), Or.elim hk_ (fun hs_ => hs_.2.1) (fun hn_ => (Kd.fresh' (Kd.R_lt (kr HO_581003)) k_ hn_)), Or.elim hk_ (fun hs_ => hs_.2.2.1) (fun hn_ => (fb BK536 k_ hn_)), Or.elim hk_ (fun hs_ => hs_.2.2.2.1) (fun hn_ => (fb BK537 k_ hn_)), Or.elim hk_ (fun hs_ => hs_.2.2.2.2.1) (fun hn_ => (fb BK580 k_ hn_)), Or.elim hk_ (fun hs_ => hs_.2.2.2.2.2.1) (fun hn_ => (fb BK581 k_ hn_)), Or.elim hk_ (fun hs_ => hs_.2.2.2.2.2.2) (fun hn_ => (fb BK589 k_ hn_))⟩)) (below_size bes)) (bb BK536 hb) (bb BK537 hb) (bb BK580 hb) (bb BK581 hb) (bb BK589 hb) (below_step bes hb) ?_; clear HO_537003; clear HO_538001; clear HO_581003; clear HO_582001; clear HO586; clear HO593; clear BK536; clear BK537; clear BK580; clear BK581; clear BK589; clear HB; intro HO_537003 HO_538001 HO_581003 HO_582001 HO586 HO593 HO599 BK536 BK537 BK580 BK581 BK589 HB; (try clear hb); (try clear ho0); have hnb136 := NB581_536.out; have hnc136 := NB536_581.out; have hnb137 := NB581_537.out; have hnc137 := NB537_581.out; have hnb138 := NB581_580.out; have hnc138 := NB580_581.out; have hcz139_0 := bc BK581 0 rfl; have hcz139_1 := bc BK581 1 rfl; have hcz139_2 := bc BK581 2 rfl; have hfz139_0 := blk_frozen BK581.out 0; have hfz139_1 := blk_frozen BK581.out 1; have hfz139_2 := blk_frozen BK581.out 2; obtain ⟨Ao140, co140, eo140⟩ := Kd.V_slice HO599.out; subst eo140))
               go_meet
               case rel => exact ⟨_, (t596), (t597), (t600), (.slice Ao140 t597.length co140), H', ⟨by have := HK1.out; have := HJ68.out; have := HK3.out; have := HK4.out; first | omega | exact Nat.le_refl _⟩, ⟨by (with_reducible repeat (first | apply Kd.R_alloc | apply Kd.R_drewN | apply Kd.R_drew)); exact Kd.R_mono (Kd.R_far (p := ⟨gb581, 2, none⟩) (Kd.R_far (p := ⟨gb581, 1, none⟩) (Kd.R_far (p := ⟨gb581, 0, none⟩) (Kd.R_types HO_537003.out BK581.out (by decide)) (fun _ hk => hk.2) (.bool t596)) (fun _ hk => hk.2) (.slice Ao140 t597.length co140)) (fun _ hk => hk.2) (.int .i64 t600)) (fun _ hk => hk.1)⟩, ⟨by (with_reducible repeat (first | apply Kd.V_alloc | apply Kd.V_drewN | apply Kd.V_drew)); exact Kd.V_mono (Kd.V_far (p := ⟨gb581, 2, none⟩) (Kd.V_far (p := ⟨gb581, 1, none⟩) (Kd.V_far (p := ⟨gb581, 0, none⟩) (Kd.V_mono HO_538001.out (fun k_ hk => (⟨hk, hk.2.2.2.2.2.1⟩ : _ ∧ k_ ≠ gb581))) (fun _ hk => hk.2) (.bool t596)) (fun _ hk => hk.2) (.slice Ao140 t597.length co140)) (fun _ hk => hk.2) (.int .i64 t600)) (fun _ hk => ⟨hk.1.1, ⟨hk.1.2.1, ⟨hk.1.2.2.1, ⟨hk.1.2.2.2.1, ⟨hk.1.2.2.2.2.1, ⟨hk.1.2.2.2.2.2.1, hk.1.2.2.2.2.2.2⟩⟩⟩⟩⟩⟩)⟩, ⟨by (with_reducible repeat (first | apply Kd.R_alloc | apply Kd.R_drewN | apply Kd.R_drew)); exact Kd.R_mono (Kd.R_far (p := ⟨gb581, 2, none⟩) (Kd.R_far (p := ⟨gb581, 1, none⟩) (Kd.R_far (p := ⟨gb581, 0, none⟩) (Kd.R_types HO_581003.out BK581.out (by decide)) (fun _ hk => hk.2) (.bool t596)) (fun _ hk => hk.2) (.slice Ao140 t597.length co140)) (fun _ hk => hk.2) (.int .i64 t600)) (fun _ hk => hk.1)⟩, ⟨by (with_reducible repeat (first | apply Kd.V_alloc | apply Kd.V_drewN | apply Kd.V_drew)); exact Kd.V_mono (Kd.V_far (p := ⟨gb581, 2, none⟩) (Kd.V_far (p := ⟨gb581, 1, none⟩) (Kd.V_far (p := ⟨gb581, 0, none⟩) (Kd.V_mono HO599.out (fun k_ hk => (⟨hk, hk.2.2.2.2.2.1⟩ : _ ∧ k_ ≠ gb581))) (fun _ hk => hk.2) (.bool t596)) (fun _ hk => hk.2) (.slice Ao140 t597.length co140)) (fun _ hk => hk.2) (.int .i64 t600)) (fun _ hk => ⟨hk.1.1, ⟨hk.1.2.1, ⟨hk.1.2.2.1, ⟨hk.1.2.2.2.1, ⟨hk.1.2.2.2.2.1, ⟨hk.1.2.2.2.2.2.1, hk.1.2.2.2.2.2.2⟩⟩⟩⟩⟩⟩)⟩, ⟨by (with_reducible repeat (first | apply Kd.V_alloc | apply Kd.V_drewN | apply Kd.V_drew)); exact Kd.V_mono (Kd.V_far (p := ⟨gb581, 2, none⟩) (Kd.V_far (p := ⟨gb581, 1, none⟩) (Kd.V_far (p := ⟨gb581, 0, none⟩) (Kd.V_mono HO586.out (fun k_ hk => (⟨hk, hk.2.2.2.2.2.1⟩ : _ ∧ k_ ≠ gb581))) (fun _ hk => hk.2) (.bool t596)) (fun _ hk => hk.2) (.slice Ao140 t597.length co140)) (fun _ hk => hk.2) (.int .i64 t600)) (fun _ hk => ⟨hk.1.1, ⟨hk.1.2.1, ⟨hk.1.2.2.1, ⟨hk.1.2.2.2.1, ⟨hk.1.2.2.2.2.1, ⟨hk.1.2.2.2.2.2.1, hk.1.2.2.2.2.2.2⟩⟩⟩⟩⟩⟩)⟩, ⟨by (with_reducible repeat (first | refine blk_drewN ?_ _ | refine blk_drew ?_ | refine blk_alloc ?_ _)); refine blk_far ?_ NB536_581.out _; (with_reducible repeat (first | refine blk_drewN ?_ _ | refine blk_drew ?_ | refine blk_alloc ?_ _)); refine blk_far ?_ NB536_581.out _; (with_reducible repeat (first | refine blk_drewN ?_ _ | refine blk_drew ?_ | refine blk_alloc ?_ _)); refine blk_far ?_ NB536_581.out _; (with_reducible repeat (first | refine blk_drewN ?_ _ | refine blk_drew ?_ | refine blk_alloc ?_ _)); exact BK536.out⟩, ⟨by (with_reducible repeat (first | refine blk_drewN ?_ _ | refine blk_drew ?_ | refine blk_alloc ?_ _)); refine blk_far ?_ NB537_581.out _; (with_reducible repeat (first | refine blk_drewN ?_ _ | refine blk_drew ?_ | refine blk_alloc ?_ _)); refine blk_far ?_ NB537_581.out _; (with_reducible repeat (first | refine blk_drewN ?_ _ | refine blk_drew ?_ | refine blk_alloc ?_ _)); refine blk_far ?_ NB537_581.out _; (with_reducible repeat (first | refine blk_drewN ?_ _ | refine blk_drew ?_ | refine blk_alloc ?_ _)); exact BK537.out⟩, ⟨by (with_reducible repeat (first | refine blk_drewN ?_ _ | refine blk_drew ?_ | refine blk_alloc ?_ _)); refine blk_far ?_ NB580_581.out _; (with_reducible repeat (first | refine blk_drewN ?_ _ | refine blk_drew ?_ | refine blk_alloc ?_ _)); refine blk_far ?_ NB580_581.out _; (with_reducible repeat (first | refine blk_drewN ?_ _ | refine blk_drew ?_ | refine blk_alloc ?_ _)); refine blk_far ?_ NB580_581.out _; (with_reducible repeat (first | refine blk_drewN ?_ _ | refine blk_drew ?_ | refine blk_alloc ?_ _)); exact BK580.out⟩, ⟨by (with_reducible repeat (first | refine blk_drewN ?_ _ | refine blk_drew ?_ | refine blk_alloc ?_ _)); refine blk_put (cs := #[.bool t596, .slice Ao140 t597.length co140, .int .i64 x582002_4]) ?_ 2 _ rfl; (with_reducible repeat (first | refine blk_drewN ?_ _ | refine blk_drew ?_ | refine blk_alloc ?_ _)); refine blk_put (cs := #[.bool t596, .slice Ao126 x582001_4.length co126, .int .i64 x582002_4]) ?_ 1 _ rfl; (with_reducible repeat (first | refine blk_drewN ?_ _ | refine blk_drew ?_ | refine blk_alloc ?_ _)); refine blk_put (cs := #[.bool x582000_4, .slice Ao126 x582001_4.length co126, .int .i64 x582002_4]) ?_ 0 _ rfl; (with_reducible repeat (first | refine blk_drewN ?_ _ | refine blk_drew ?_ | refine blk_alloc ?_ _)); exact BK581.out⟩, ⟨by (with_reducible repeat (first | refine blk_drewN ?_ _ | refine blk_drew ?_ | refine blk_alloc ?_ _)); refine blk_far ?_ NB589_581.out _; (with_reducible repeat (first | refine blk_drewN ?_ _ | refine blk_drew ?_ | refine blk_alloc ?_ _)); refine blk_far ?_ NB589_581.out _; (with_reducible repeat (first | refine blk_drewN ?_ _ | refine blk_drew ?_ | refine blk_alloc ?_ _)); refine blk_far ?_ NB589_581.out _; (with_reducible repeat (first | refine blk_drewN ?_ _ | refine blk_drew ?_ | refine blk_alloc ?_ _)); exact BK589.out⟩, ⟨bes⟩⟩
              case rest =>
               clear HC108
               try clear c1
               try clear c2
               try clear p2
               try clear c4
               try clear c5
               try clear c6
               try clear p6
               try clear c7
               try clear c8
               try clear c9
               try clear c10
               try clear c11
               try clear c12
               try clear c13
               try clear c14
               try clear c15
               try clear c16
               try clear c18
               try clear c18b0
               try clear c21
               try clear c21b0
               try clear c24
               try clear c48
               try clear c53
               try clear c54
               try clear p64
               try clear c67
               try clear c70
               try clear c73
               try clear c73b0
               try clear c73b1
               try clear c73b2
               try clear c82
               try clear c83
               try clear c85
               try clear c89
               try clear c90
               try clear c94
               try clear c95
               try clear c96
               try clear c98
               try clear c98b0
               try clear c99
               try clear c100
               try clear c101
               try clear c103
               try clear c103b0
               try clear c109
               try clear c110
               try clear c111
               try clear c116
               try clear c117
               try clear c118
               try clear c119
               try clear c128
               try clear c128b0
               try clear c130
               try clear c131
               try clear c132
               try clear c133
               try clear c136
               try clear c137
               try clear c138
               try clear hcz102_0
               try clear hcz102_1
               try clear hcz102_2
               try clear hcz102_3
               try clear hcz112_0
               try clear hcz112_1
               try clear hcz112_2
               try clear hcz112_3
               try clear hcz120_0
               try clear hcz120_1
               try clear hcz120_2
               try clear hcz134_0
               try clear hcz134_1
               try clear hcz134_2
               try clear hcz139_0
               try clear hcz139_1
               try clear hcz139_2
               try clear hcz49_0
               try clear hcz49_1
               try clear hcz49_2
               try clear hcz49_3
               try clear hcz55_0
               try clear hcz55_1
               try clear hcz55_2
               try clear hcz68_0
               try clear hcz68_1
               try clear hcz68_2
               try clear hcz68_3
               try clear hcz71_0
               try clear hcz71_1
               try clear hcz71_2
               try clear hcz71_3
               try clear hcz86_0
               try clear hcz86_1
               try clear hcz86_2
               try clear hcz86_3
               try clear hcz91_0
               try clear hcz91_1
               try clear hcz91_2
               try clear hcz91_3
               try clear hcz97_0
               try clear hcz97_1
               try clear hcz97_2
               try clear hfz102_0
               try clear hfz102_1
               try clear hfz102_2
               try clear hfz102_3
               try clear hfz112_0
               try clear hfz112_1
               try clear hfz112_2
               try clear hfz112_3
               try clear hfz120_0
               try clear hfz120_1
               try clear hfz120_2
               try clear hfz134_0
               try clear hfz134_1
               try clear hfz134_2
               try clear hfz139_0
               try clear hfz139_1
               try clear hfz139_2
               try clear hfz49_0
               try clear hfz49_1
               try clear hfz49_2
               try clear hfz49_3
               try clear hfz55_0
               try clear hfz55_1
               try clear hfz55_2
               try clear hfz68_0
               try clear hfz68_1
               try clear hfz68_2
               try clear hfz68_3
               try clear hfz71_0
               try clear hfz71_1
               try clear hfz71_2
               try clear hfz71_3
               try clear hfz86_0
               try clear hfz86_1
               try clear hfz86_2
               try clear hfz86_3
               try clear hfz91_0
               try clear hfz91_1
               try clear hfz91_2
               try clear hfz91_3
               try clear hfz97_0
               try clear hfz97_1
               try clear hfz97_2
               try clear p2
               try clear p6
               try clear p64
               obtain ⟨kq, x582000_107, x582001_107, x582002_107, u582001, HA, HJ107, HO_537003, HO_538001, HO_581003, HO_582001, HO_590001, BK536, BK537, BK580, BK581, BK589, HB⟩ := hcut
               cases kq with
               | zero => exact absurd HA.out (by simp [gimballaw09_MatUnits.j5])
               | succ kj107 =>
                have H := HA.out
                clear HA
                simp only [gimballaw09_MatUnits.j5] at H
                obtain ⟨t601, A1410, H⟩ := Option.bind_eq_some_iff.mp H
                (try dsimp -simprocs only at H)
                have A141 := Aside0.mk A1410
                clear A1410
                obtain ⟨⟨t602, t603⟩, A1420, H⟩ := Option.bind_eq_some_iff.mp H
                (try dsimp -simprocs only at H)
                have A142 := Aside0.mk A1420
                clear A1420
                obtain ⟨t604, A1430, H⟩ := Option.bind_eq_some_iff.mp H
                (try dsimp -simprocs only at H)
                have A143 := Aside0.mk A1430
                clear A1430
                by_cases c144 : t604 = t602
                rotate_left
                ·
                 rw [if_neg c144] at H
                 have c144b0 : (t604 == t602) = false := beq_eq_false_iff_ne.mpr c144
                 have c144b1 : (t604 != t602) = true := bne_iff_ne.mpr c144
                 rw [hLW] at H
                 exact absurd H (by simp)
                rw [if_pos c144] at H
                have c144b0 : (t604 == t602) = true := beq_iff_eq.mpr c144
                have c144b1 : (t604 != t602) = false := bne_eq_false_iff_eq.mpr c144
                clear c144
                have H' := Aside0.mk H
                clear H
                have hnb145 := NB536_537.out
                have hnc145 := NB537_536.out
                have hnb146 := NB536_580.out
                have hnc146 := NB580_536.out
                have hnb147 := NB536_581.out
                have hnc147 := NB581_536.out
                have hnb148 := NB536_589.out
                have hnc148 := NB589_536.out
                have hcz149_0 := bc BK536 0 rfl
                have hcz149_1 := bc BK536 1 rfl
                have hcz149_2 := bc BK536 2 rfl
                have hcz149_3 := bc BK536 3 rfl
                have hfz149_0 := blk_frozen BK536.out 0
                have hfz149_1 := blk_frozen BK536.out 1
                have hfz149_2 := blk_frozen BK536.out 2
                have hfz149_3 := blk_frozen BK536.out 3
                go_wp2_with (first | ((with_reducible refine gate_callee (f := 8) rfl ?_); refine goesL_ (some 115) rfl rfl Tryd.func8 (by kernel_rfl) rfl #[.agg #[.int .i64 t530, .int .i64 t531, .int .i64 t532, .slice Ao14 t533.length co14], .int .i64 x19_3, .int .i64 x20_4] rfl ga ?_; (with_reducible refine (mat_Matrix_At.calls t530 t531 t532 _ _ t533 x19_3 x20_4 t601 _ ?side1 ?side2 A141.out).mono ?_); (case side1 => exact ks HO_537003); (case side2 => exact (Kd.R_reads' HO_537003.out).2.1); rintro e w150 ⟨rfl, hb⟩; refine ⟨_, rfl, ?_⟩; refine ax11 (Kd.R_below (kr HO_537003) hb) (Kd.V_below (kv HO_538001) hb) (Kd.R_below (kr HO_581003) hb) (Kd.V_below (kv HO_582001) hb) (Kd.V_below (kv HO_590001) hb) (bb BK536 hb) (bb BK537 hb) (bb BK580 hb) (bb BK581 hb) (bb BK589 hb) (below_step bes hb) ?_; clear HO_537003; clear HO_538001; clear HO_581003; clear HO_582001; clear HO_590001; clear BK536; clear BK537; clear BK580; clear BK581; clear BK589; clear HB; intro HO_537003 HO_538001 HO_581003 HO_582001 HO_590001 BK536 BK537 BK580 BK581 BK589 HB; (try clear hb)) | ((with_reducible refine gate_callee (f := 17) rfl ?_); refine goesL_ (some 118) rfl rfl Tryd.func17 (by kernel_rfl) rfl #[.int .u64 t601, .int .i64 (wrap64 (-t579))] rfl ga ?_; (with_reducible refine (more_Scale.calls kj107 t601 (wrap64 (-t579)) t602 t603 _ A142.out).mono ?_); rintro e w151 ⟨rfl, hb⟩; refine ⟨_, rfl, ?_⟩; refine ax11 (Kd.R_below (kr HO_537003) hb) (Kd.V_below (kv HO_538001) hb) (Kd.R_below (kr HO_581003) hb) (Kd.V_below (kv HO_582001) hb) (Kd.V_below (kv HO_590001) hb) (bb BK536 hb) (bb BK537 hb) (bb BK580 hb) (bb BK581 hb) (bb BK589 hb) (below_step bes hb) ?_; clear HO_537003; clear HO_538001; clear HO_581003; clear HO_582001; clear HO_590001; clear BK536; clear BK537; clear BK580; clear BK581; clear BK589; clear HB; intro HO_537003 HO_538001 HO_581003 HO_582001 HO_590001 BK536 BK537 BK580 BK581 BK589 HB; (try clear hb); have hnb152 := NB580_537.out; have hnc152 := NB537_580.out; have hnb153 := NB580_581.out; have hnc153 := NB581_580.out; have hnb154 := NB580_589.out; have hnc154 := NB589_580.out; have hcz155_0 := bc BK580 0 rfl; have hcz155_1 := bc BK580 1 rfl; have hcz155_2 := bc BK580 2 rfl; have hcz155_3 := bc BK580 3 rfl; have hfz155_0 := blk_frozen BK580.out 0; have hfz155_1 := blk_frozen BK580.out 1; have hfz155_2 := blk_frozen BK580.out 2; have hfz155_3 := blk_frozen BK580.out 3) | ((with_reducible refine gate_callee (f := 8) rfl ?_); refine goesL_ (some 124) rfl rfl Tryd.func8 (by kernel_rfl) rfl #[.agg #[.int .i64 t573, .int .i64 t574, .int .i64 t575, .slice Ao92 t576.length co92], .int .i64 x19_3, .int .i64 x20_4] rfl ga ?_; (with_reducible refine (mat_Matrix_At.calls t573 t574 t575 _ _ t576 x19_3 x20_4 t604 _ ?side1 ?side2 A143.out).mono ?_); (case side1 => exact ks HO_581003); (case side2 => exact (Kd.R_reads' HO_581003.out).2.1); rintro e w156 ⟨rfl, hb⟩; refine ⟨_, rfl, ?_⟩; refine ax11 (Kd.R_below (kr HO_537003) hb) (Kd.V_below (kv HO_538001) hb) (Kd.R_below (kr HO_581003) hb) (Kd.V_below (kv HO_582001) hb) (Kd.V_below (kv HO_590001) hb) (bb BK536 hb) (bb BK537 hb) (bb BK580 hb) (bb BK581 hb) (bb BK589 hb) (below_step bes hb) ?_; clear HO_537003; clear HO_538001; clear HO_581003; clear HO_582001; clear HO_590001; clear BK536; clear BK537; clear BK580; clear BK581; clear BK589; clear HB; intro HO_537003 HO_538001 HO_581003 HO_582001 HO_590001 BK536 BK537 BK580 BK581 BK589 HB; (try clear hb)))
                go_roundg kj107
                case measure => have := HK1.out; have := HJ68.out; have := HK3.out; have := HK4.out; have := HJ107.out; omega
                case rel => exact ⟨(wrap64 (x20_4 + 1)), (x582000_107), (x582001_107), (x582002_107), (u582001), (by first | rfl | (simp; done) | (simp [*]; done)), H', ⟨by have := HK1.out; have := HJ68.out; have := HK3.out; have := HK4.out; have := HJ107.out; omega⟩, ⟨kr HO_537003⟩, ⟨by (with_reducible repeat (first | apply Kd.V_alloc | apply Kd.V_drewN | apply Kd.V_drew)); exact Kd.V_mono HO_538001.out (fun _ hk => ⟨hk.1, ⟨hk.2.1, ⟨hk.2.2.1, ⟨hk.2.2.2.1, ⟨hk.2.2.2.2.1, hk.2.2.2.2.2.1⟩⟩⟩⟩⟩)⟩, ⟨kr HO_581003⟩, ⟨by (with_reducible repeat (first | apply Kd.V_alloc | apply Kd.V_drewN | apply Kd.V_drew)); exact Kd.V_mono HO_582001.out (fun _ hk => ⟨hk.1, ⟨hk.2.1, ⟨hk.2.2.1, ⟨hk.2.2.2.1, ⟨hk.2.2.2.2.1, hk.2.2.2.2.2.1⟩⟩⟩⟩⟩)⟩, ⟨kb BK536⟩, ⟨kb BK537⟩, ⟨kb BK580⟩, ⟨kb BK581⟩, ⟨bes⟩⟩
             ·
              rw [if_neg c103] at H
              have c103b0 : decide (x20_4 < t531) = false := decide_eq_false c103
              clear c103
              have H' := Aside0.mk H
              clear H
              have hnb157 := NB536_537.out
              have hnc157 := NB537_536.out
              have hnb158 := NB536_580.out
              have hnc158 := NB580_536.out
              have hnb159 := NB536_581.out
              have hnc159 := NB581_536.out
              have hcz160_0 := bc BK536 0 rfl
              have hcz160_1 := bc BK536 1 rfl
              have hcz160_2 := bc BK536 2 rfl
              have hcz160_3 := bc BK536 3 rfl
              have hfz160_0 := blk_frozen BK536.out 0
              have hfz160_1 := blk_frozen BK536.out 1
              have hfz160_2 := blk_frozen BK536.out 2
              have hfz160_3 := blk_frozen BK536.out 3
              go_wp2
              go_roundg k4
              case measure => have := HK1.out; have := HJ68.out; have := HK3.out; have := HK4.out; omega
              case rel => exact ⟨(wrap64 (x19_3 + 1)), (x582000_4), (x582001_4), (x582002_4), (u582001), (by first | rfl | (simp; done) | (simp [*]; done)), H', ⟨by have := HK1.out; have := HJ68.out; have := HK3.out; have := HK4.out; omega⟩, ⟨kr HO_537003⟩, ⟨kv HO_538001⟩, ⟨kr HO_581003⟩, ⟨kv HO_582001⟩, ⟨kb BK536⟩, ⟨kb BK537⟩, ⟨kb BK580⟩, ⟨kb BK581⟩, ⟨bes⟩⟩
          ·
           rw [if_neg c98] at H
           have c98b0 : decide (x19_3 < t530) = false := decide_eq_false c98
           clear c98
           obtain ⟨t605, A1610, H⟩ := Option.bind_eq_some_iff.mp H
           (try dsimp -simprocs only at H)
           have A161 := Aside0.mk A1610
           clear A1610
           by_cases c162 : t605 = 0
           ·
            rw [if_pos c162] at H
            have c162b0 : (t605 == 0) = true := beq_iff_eq.mpr c162
            have c162b1 : (t605 != 0) = false := bne_eq_false_iff_eq.mpr c162
            clear c162
            obtain rfl := Option.some.inj H
            have hnb163 := NB536_537.out
            have hnc163 := NB537_536.out
            have hnb164 := NB536_580.out
            have hnc164 := NB580_536.out
            have hnb165 := NB536_581.out
            have hnc165 := NB581_536.out
            have hcz166_0 := bc BK536 0 rfl
            have hcz166_1 := bc BK536 1 rfl
            have hcz166_2 := bc BK536 2 rfl
            have hcz166_3 := bc BK536 3 rfl
            have hfz166_0 := blk_frozen BK536.out 0
            have hfz166_1 := blk_frozen BK536.out 1
            have hfz166_2 := blk_frozen BK536.out 2
            have hfz166_3 := blk_frozen BK536.out 3
            have hnb167 := NB581_537.out
            have hnc167 := NB537_581.out
            have hnb168 := NB581_580.out
            have hnc168 := NB580_581.out
            have hcz169_0 := bc BK581 0 rfl
            have hcz169_1 := bc BK581 1 rfl
            have hcz169_2 := bc BK581 2 rfl
            have hfz169_0 := blk_frozen BK581.out 0
            have hfz169_1 := blk_frozen BK581.out 1
            have hfz169_2 := blk_frozen BK581.out 2
            obtain ⟨Ao170, co170, eo170⟩ := Kd.V_slice HO_582001.out
            subst eo170
            go_wp2_with (first | ((with_reducible refine gate_callee (f := 18) rfl ?_); refine goesL_ (some 128) rfl rfl Tryd.func18 (by kernel_rfl) rfl #[.agg #[.bool x582000_3, .slice Ao170 x582001_3.length co170, .int .i64 x582002_3]] rfl ga ?_; (with_reducible refine (dyad_Num_Sign.calls x582000_3 _ _ x582001_3 x582002_3 t605 _ ?side1 ?side2 A161.out).mono ?_); (case side1 => exact kvs HO_582001); (case side2 => exact (Kd.V_reads' HO_582001.out).2.1); rintro e w171 ⟨rfl, hb⟩; refine ⟨_, rfl, ?_⟩; refine ax9 (Kd.R_below (kr HO_537003) hb) (Kd.V_below (kv HO_538001) hb) (Kd.R_below (kr HO_581003) hb) (Kd.V_below (kv HO_582001) hb) (bb BK536 hb) (bb BK537 hb) (bb BK580 hb) (bb BK581 hb) (below_step bes hb) ?_; clear HO_537003; clear HO_538001; clear HO_581003; clear HO_582001; clear BK536; clear BK537; clear BK580; clear BK581; clear HB; intro HO_537003 HO_538001 HO_581003 HO_582001 BK536 BK537 BK580 BK581 HB; (try clear hb)))
            go_ret
            exact ⟨er, bes⟩
           ·
            rw [if_neg c162] at H
            have c162b0 : (t605 == 0) = false := beq_eq_false_iff_ne.mpr c162
            have c162b1 : (t605 != 0) = true := bne_iff_ne.mpr c162
            obtain ⟨⟨t606, t607, t610⟩, A1720, H⟩ := Option.bind_eq_some_iff.mp H
            (try dsimp -simprocs only at H)
            have A172 := Aside0.mk A1720
            clear A1720
            obtain ⟨t611, A1730, H⟩ := Option.bind_eq_some_iff.mp H
            (try dsimp -simprocs only at H)
            have A173 := Aside0.mk A1730
            clear A1730
            by_cases c174 : t611 ≥ 0
            rotate_left
            ·
             rw [if_neg c174] at H
             have c174b0 : decide (0 ≤ t611) = false := decide_eq_false c174
             clear c174
             rw [hLW] at H
             exact absurd H (by simp)
            rw [if_pos c174] at H
            have c174b0 : decide (0 ≤ t611) = true := decide_eq_true c174
            clear c174
            obtain ⟨⟨t612, t613, t616⟩, A1750, H⟩ := Option.bind_eq_some_iff.mp H
            (try dsimp -simprocs only at H)
            have A175 := Aside0.mk A1750
            clear A1750
            obtain ⟨t617, A1760, H⟩ := Option.bind_eq_some_iff.mp H
            (try dsimp -simprocs only at H)
            have A176 := Aside0.mk A1760
            clear A1760
            obtain rfl := Option.some.inj H
            have hnb177 := NB536_537.out
            have hnc177 := NB537_536.out
            have hnb178 := NB536_580.out
            have hnc178 := NB580_536.out
            have hnb179 := NB536_581.out
            have hnc179 := NB581_536.out
            have hcz180_0 := bc BK536 0 rfl
            have hcz180_1 := bc BK536 1 rfl
            have hcz180_2 := bc BK536 2 rfl
            have hcz180_3 := bc BK536 3 rfl
            have hfz180_0 := blk_frozen BK536.out 0
            have hfz180_1 := blk_frozen BK536.out 1
            have hfz180_2 := blk_frozen BK536.out 2
            have hfz180_3 := blk_frozen BK536.out 3
            have hnb181 := NB581_537.out
            have hnc181 := NB537_581.out
            have hnb182 := NB581_580.out
            have hnc182 := NB580_581.out
            have hcz183_0 := bc BK581 0 rfl
            have hcz183_1 := bc BK581 1 rfl
            have hcz183_2 := bc BK581 2 rfl
            have hfz183_0 := blk_frozen BK581.out 0
            have hfz183_1 := blk_frozen BK581.out 1
            have hfz183_2 := blk_frozen BK581.out 2
            obtain ⟨Ao184, co184, eo184⟩ := Kd.V_slice HO_582001.out
            subst eo184
            try go_wp2_with (first | ((with_reducible refine gate_callee (f := 18) rfl ?_); refine goesL_ (some 128) rfl rfl Tryd.func18 (by kernel_rfl) rfl #[.agg #[.bool x582000_3, .slice Ao184 x582001_3.length co184, .int .i64 x582002_3]] rfl ga ?_; (with_reducible refine (dyad_Num_Sign.calls x582000_3 _ _ x582001_3 x582002_3 t605 _ ?side1 ?side2 A161.out).mono ?_); (case side1 => exact kvs HO_582001); (case side2 => exact (Kd.V_reads' HO_582001.out).2.1); rintro e w185 ⟨rfl, hb⟩; refine ⟨_, rfl, ?_⟩; refine ax9 (Kd.R_below (kr HO_537003) hb) (Kd.V_below (kv HO_538001) hb) (Kd.R_below (kr HO_581003) hb) (Kd.V_below (kv HO_582001) hb) (bb BK536 hb) (bb BK537 hb) (bb BK580 hb) (bb BK581 hb) (below_step bes hb) ?_; clear HO_537003; clear HO_538001; clear HO_581003; clear HO_582001; clear BK536; clear BK537; clear BK580; clear BK581; clear HB; intro HO_537003 HO_538001 HO_581003 HO_582001 BK536 BK537 BK580 BK581 HB; (try clear hb)))
            refine ax9 (Kd.R_drew HO_537003.out) (Kd.V_drew HO_538001.out) (Kd.R_drew HO_581003.out) (Kd.V_drew HO_582001.out) (blk_drew BK536.out) (blk_drew BK537.out) (blk_drew BK580.out) (blk_drew BK581.out) (below_drew1 HB.out) ?_
            clear HO_537003 HO_538001 HO_581003 HO_582001 BK536 BK537 BK580 BK581 HB
            intro HO_537003 HO_538001 HO_581003 HO_582001 BK536 BK537 BK580 BK581 HB
            refine start_ (n := 14) (S := fun w' => w'.cell? ⟨gb581, 0, none⟩ = some (.bool x582000_3) ∧ w'.cell? ⟨gb581, 1, none⟩ = some (.slice Ao184 x582001_3.length co184) ∧ w'.cell? ⟨gb581, 2, none⟩ = some (.int .i64 x582002_3)) (ds := []) #[false, false, false, false, false, false, false, false, false, false, false, false, false, false] (by kernel_rfl) rfl rfl ⟨(blk_cell BK581.out 0).trans rfl, (blk_cell BK581.out 1).trans rfl, (blk_cell BK581.out 2).trans rfl⟩ (fun hHeld => ?_); refine with_tabW gimballaw09_MatUnits.tab37 gimballaw09_MatUnits.bits37 (fun HT_ HW_ => ?_)
            generalize w185.drew = w186 at HO_537003 HO_538001 HO_581003 HO_582001 BK536 BK537 BK580 BK581 HB hHeld ⊢
            refine pure_ (i := 1) (N := some 133) (v := ?_) (a' := ?_) #[false, true, false, false, false, false, false, false, false, false, false, false, false, false] rfl rfl (any_of HT_.out (by kernel_rfl)) (fun _ _ _ h => h) (Or.inl ⟨by rfl, ?_⟩) ?_ ?_
            rotate_left
            ·
             intro w'
             go_simp
             with_reducible rfl
            rotate_left
            ·
             simp only [Act.put, sa0, sa1, sa2, i64_w, i32_w]
             rfl
            refine take_ (i := 0) (N := some 132) (v := ?_) (a' := ?_) #[true, true, false, false, false, false, false, false, false, false, false, false, false, false] rfl rfl (take_ofW HT_.out HW_.out (by kernel_rfl)) (fun _ _ _ h => h) (Or.inl ⟨by rfl, ?_⟩) hHeld ?_ ?_
            rotate_left
            ·
             rintro w' ⟨s0, s1, s2⟩
             go_simp
             with_reducible rfl
            rotate_left
            ·
             simp only [Act.put, sa0, sa1, sa2, i64_w, i32_w]
             rfl
            refine one_ (i := 2) (N := some 134) #[true, true, true, false, false, false, false, false, false, false, false, false, false, false] rfl rfl (one_of HT_.out (by kernel_rfl)) (by decide) (fun K hK => ?_)
            refine goes_ Tryd.func19 (by kernel_rfl) rfl #[.int .i64 t579] (by rfl) rfl rfl ga ?_
            with_reducible refine (dyad_Two.calls t579 t606 t607 t610 _ A172.out).mono ?_
            rintro e w187 ⟨v608, rfl, ho0, hb⟩
            refine ⟨_, rfl, ?_⟩
            refine ax10 (Kd.R_below (kr HO_537003) hb) (Kd.V_elder' (kv HO_538001) (Kd.R_base ho0) hb) (Kd.R_below (kr HO_581003) hb) (Kd.V_elder' (kv HO_582001) (Kd.R_base ho0) hb) (Kd.R_lower ho0 (below_size bes)) (bb BK536 hb) (bb BK537 hb) (bb BK580 hb) (bb BK581 hb) (below_step bes hb) ?_
            clear HO_537003 HO_538001 HO_581003 HO_582001 BK536 BK537 BK580 BK581 HB
            intro HO_537003 HO_538001 HO_581003 HO_582001 HO609 BK536 BK537 BK580 BK581 HB
            (try clear hb)
            (try clear hb2)
            (try clear hk)
            (try clear hi)
            (try clear ho0)
            obtain ⟨Ao188, co188, eo188⟩ := Kd.R_slice HO609.out
            (first | subst eo188 | (injection eo188 with f1_ f2_ f3_; have f4_ := f1_.symm; have f5_ := f3_.symm; clear f1_ f2_ f3_; subst f4_; subst f5_))
            refine hK.out _ _ ⟨(blk_cell BK581.out 0).trans rfl, (blk_cell BK581.out 1).trans rfl, (blk_cell BK581.out 2).trans rfl⟩ (fun hHeld => ?_)
            clear hK K
            refine norm_ (a' := ?_) ?_ ?_
            rotate_left
            ·
             show Act.put _ (some 134) _ = _
             simp only [Act.put, sa0, sa1, sa2, i64_w, i32_w]
             rfl
            refine one_ (i := 3) (N := some 135) #[true, true, true, true, false, false, false, false, false, false, false, false, false, false] rfl rfl (one_of HT_.out (by kernel_rfl)) (by decide) (fun K hK => ?_)
            refine goes_ Tryd.func16 (by kernel_rfl) rfl #[.agg #[.bool x582000_3, .slice Ao184 x582001_3.length co184, .int .i64 x582002_3], .agg #[.bool t606, .slice Ao188 t607.length co188, .int .i64 t610]] (by rfl) rfl rfl ga ?_
            with_reducible refine (dyad_Num_Cmp.calls k3 x582000_3 _ _ x582001_3 x582002_3 t606 _ _ t607 t610 t611 _ ?side1 ?side2 ?side3 ?side4 ?side5 A173.out).mono ?_
            (case side1 => exact kvs HO_582001)
            (case side2 => exact (Kd.V_reads' HO_582001.out).2.1)
            (case side3 => exact ks HO609)
            (case side4 => exact (Kd.R_reads' HO609.out).2.1)
            (case side5 => first | exact hT | exact TabW.drewN hT _ | exact TabW.drew hT | exact TabW.below hT bes)
            rintro e w189 ⟨rfl, hb⟩
            refine ⟨_, rfl, ?_⟩
            refine ax10 (Kd.R_below (kr HO_537003) hb) (Kd.V_below (kv HO_538001) hb) (Kd.R_below (kr HO_581003) hb) (Kd.V_below (kv HO_582001) hb) (Kd.R_below (kr HO609) hb) (bb BK536 hb) (bb BK537 hb) (bb BK580 hb) (bb BK581 hb) (below_step bes hb) ?_
            clear HO_537003 HO_538001 HO_581003 HO_582001 HO609 BK536 BK537 BK580 BK581 HB
            intro HO_537003 HO_538001 HO_581003 HO_582001 HO609 BK536 BK537 BK580 BK581 HB
            (try clear hb)
            (try clear hb2)
            (try clear hk)
            (try clear hi)
            refine hK.out _ _ ⟨(blk_cell BK581.out 0).trans rfl, (blk_cell BK581.out 1).trans rfl, (blk_cell BK581.out 2).trans rfl⟩ (fun hHeld => ?_)
            clear hK K
            refine norm_ (a' := ?_) ?_ ?_
            rotate_left
            ·
             show Act.put _ (some 135) _ = _
             simp only [Act.put, sa0, sa1, sa2, i64_w, i32_w]
             rfl
            refine pure_ (i := 4) (N := some 136) (v := ?_) (a' := ?_) #[true, true, true, true, true, false, false, false, false, false, false, false, false, false] rfl rfl (any_of HT_.out (by kernel_rfl)) (fun _ _ _ h => h) (Or.inl ⟨by rfl, ?_⟩) ?_ ?_
            rotate_left
            ·
             intro w'
             go_simp
             with_reducible rfl
            rotate_left
            ·
             simp only [Act.put, sa0, sa1, sa2, i64_w, i32_w]
             rfl
            refine pure_ (i := 5) (N := some 137) (v := ?_) (a' := ?_) #[true, true, true, true, true, true, false, false, false, false, false, false, false, false] rfl rfl (any_of HT_.out (by kernel_rfl)) (fun _ _ _ h => h) (Or.inl ⟨by rfl, ?_⟩) ?_ ?_
            rotate_left
            ·
             intro w'
             go_simp
             with_reducible rfl
            rotate_left
            ·
             simp only [Act.put, sa0, sa1, sa2, i64_w, i32_w]
             rfl
            refine pure_ (i := 7) (N := some 139) (v := ?_) (a' := ?_) #[true, true, true, true, true, true, false, true, false, false, false, false, false, false] rfl rfl (any_of HT_.out (by kernel_rfl)) (fun _ _ _ h => h) (Or.inl ⟨by rfl, ?_⟩) ?_ ?_
            rotate_left
            ·
             intro w'
             go_simp
             with_reducible rfl
            rotate_left
            ·
             simp only [Act.put, sa0, sa1, sa2, i64_w, i32_w]
             rfl
            refine pure_ (i := 8) (N := some 140) (v := ?_) (a' := ?_) #[true, true, true, true, true, true, false, true, true, false, false, false, false, false] rfl rfl (any_of HT_.out (by kernel_rfl)) (fun _ _ _ h => h) (Or.inl ⟨by rfl, ?_⟩) ?_ ?_
            rotate_left
            ·
             intro w'
             go_simp
             with_reducible rfl
            rotate_left
            ·
             simp only [Act.put, sa0, sa1, sa2, i64_w, i32_w]
             rfl
            refine take_ (i := 6) (N := some 138) (v := ?_) (a' := ?_) #[true, true, true, true, true, true, true, true, true, false, false, false, false, false] rfl rfl (take_ofW HT_.out HW_.out (by kernel_rfl)) (fun _ _ _ h => h) (Or.inl ⟨by rfl, ?_⟩) hHeld ?_ ?_
            rotate_left
            ·
             rintro w' ⟨s0, s1, s2⟩
             go_simp
             with_reducible rfl
            rotate_left
            ·
             simp only [Act.put, sa0, sa1, sa2, i64_w, i32_w]
             rfl
            refine one_ (i := 9) (N := some 141) #[true, true, true, true, true, true, true, true, true, true, false, false, false, false] rfl rfl (one_of HT_.out (by kernel_rfl)) (by decide) (fun K hK => ?_)
            refine goes_ Tryd.func19 (by kernel_rfl) rfl #[.int .i64 (wrap64 (t579 + 1))] (by rfl) rfl rfl ga ?_
            with_reducible refine (dyad_Two.calls (wrap64 (t579 + 1)) t612 t613 t616 _ A175.out).mono ?_
            rintro e w190 ⟨v614, rfl, ho0, hb⟩
            refine ⟨_, rfl, ?_⟩
            refine ax11 (Kd.R_below (kr HO_537003) hb) (Kd.V_elder' (kv HO_538001) (Kd.R_base ho0) hb) (Kd.R_below (kr HO_581003) hb) (Kd.V_elder' (kv HO_582001) (Kd.R_base ho0) hb) (Kd.R_elder' (kr HO609) (Kd.R_base ho0) hb) (Kd.R_lower (Kd.R_new' ho0 (Kd.R_lt (kr HO609))) (below_size bes)) (bb BK536 hb) (bb BK537 hb) (bb BK580 hb) (bb BK581 hb) (below_step bes hb) ?_
            clear HO_537003 HO_538001 HO_581003 HO_582001 HO609 BK536 BK537 BK580 BK581 HB
            intro HO_537003 HO_538001 HO_581003 HO_582001 HO609 HO615 BK536 BK537 BK580 BK581 HB
            (try clear hb)
            (try clear hb2)
            (try clear hk)
            (try clear hi)
            (try clear ho0)
            obtain ⟨Ao191, co191, eo191⟩ := Kd.R_slice HO615.out
            (first | subst eo191 | (injection eo191 with f1_ f2_ f3_; have f4_ := f1_.symm; have f5_ := f3_.symm; clear f1_ f2_ f3_; subst f4_; subst f5_))
            refine hK.out _ _ ⟨(blk_cell BK581.out 0).trans rfl, (blk_cell BK581.out 1).trans rfl, (blk_cell BK581.out 2).trans rfl⟩ (fun hHeld => ?_)
            clear hK K
            refine norm_ (a' := ?_) ?_ ?_
            rotate_left
            ·
             show Act.put _ (some 141) _ = _
             simp only [Act.put, sa0, sa1, sa2, i64_w, i32_w]
             rfl
            refine one_ (i := 10) (N := some 142) #[true, true, true, true, true, true, true, true, true, true, true, false, false, false] rfl rfl (one_of HT_.out (by kernel_rfl)) (by decide) (fun K hK => ?_)
            refine goes_ Tryd.func16 (by kernel_rfl) rfl #[.agg #[.bool x582000_3, .slice Ao184 x582001_3.length co184, .int .i64 x582002_3], .agg #[.bool t612, .slice Ao191 t613.length co191, .int .i64 t616]] (by rfl) rfl rfl ga ?_
            with_reducible refine (dyad_Num_Cmp.calls k3 x582000_3 _ _ x582001_3 x582002_3 t612 _ _ t613 t616 t617 _ ?side1 ?side2 ?side3 ?side4 ?side5 A176.out).mono ?_
            (case side1 => exact kvs HO_582001)
            (case side2 => exact (Kd.V_reads' HO_582001.out).2.1)
            (case side3 => exact ks HO615)
            (case side4 => exact (Kd.R_reads' HO615.out).2.1)
            (case side5 => first | exact hT | exact TabW.drewN hT _ | exact TabW.drew hT | exact TabW.below hT bes)
            rintro e w192 ⟨rfl, hb⟩
            refine ⟨_, rfl, ?_⟩
            refine ax11 (Kd.R_below (kr HO_537003) hb) (Kd.V_below (kv HO_538001) hb) (Kd.R_below (kr HO_581003) hb) (Kd.V_below (kv HO_582001) hb) (Kd.R_below (kr HO609) hb) (Kd.R_below (kr HO615) hb) (bb BK536 hb) (bb BK537 hb) (bb BK580 hb) (bb BK581 hb) (below_step bes hb) ?_
            clear HO_537003 HO_538001 HO_581003 HO_582001 HO609 HO615 BK536 BK537 BK580 BK581 HB
            intro HO_537003 HO_538001 HO_581003 HO_582001 HO609 HO615 BK536 BK537 BK580 BK581 HB
            (try clear hb)
            (try clear hb2)
            (try clear hk)
            (try clear hi)
            refine hK.out _ _ ⟨(blk_cell BK581.out 0).trans rfl, (blk_cell BK581.out 1).trans rfl, (blk_cell BK581.out 2).trans rfl⟩ (fun hHeld => ?_)
            clear hK K
            refine norm_ (a' := ?_) ?_ ?_
            rotate_left
            ·
             show Act.put _ (some 142) _ = _
             simp only [Act.put, sa0, sa1, sa2, i64_w, i32_w]
             rfl
            refine pure_ (i := 11) (N := some 143) (v := ?_) (a' := ?_) #[true, true, true, true, true, true, true, true, true, true, true, true, false, false] rfl rfl (any_of HT_.out (by kernel_rfl)) (fun _ _ _ h => h) (Or.inl ⟨by rfl, ?_⟩) ?_ ?_
            rotate_left
            ·
             intro w'
             go_simp
             with_reducible rfl
            rotate_left
            ·
             simp only [Act.put, sa0, sa1, sa2, i64_w, i32_w]
             rfl
            refine pure_ (i := 12) (N := some 144) (v := ?_) (a' := ?_) #[true, true, true, true, true, true, true, true, true, true, true, true, true, false] rfl rfl (any_of HT_.out (by kernel_rfl)) (fun _ _ _ h => h) (Or.inl ⟨by rfl, ?_⟩) ?_ ?_
            rotate_left
            ·
             intro w'
             go_simp
             with_reducible rfl
            rotate_left
            ·
             simp only [Act.put, sa0, sa1, sa2, i64_w, i32_w]
             rfl
            refine pure_ (i := 13) (N := some 8) (v := ?_) (a' := ?_) #[true, true, true, true, true, true, true, true, true, true, true, true, true, true] rfl rfl (any_of HT_.out (by kernel_rfl)) (fun _ _ _ h => h) (Or.inl ⟨by rfl, ?_⟩) ?_ ?_
            rotate_left
            ·
             intro w'
             go_simp
             with_reducible rfl
            rotate_left
            ·
             simp only [Act.put, sa0, sa1, sa2, i64_w, i32_w]
             rfl
            refine done_ (done_of HT_.out (by kernel_rfl)) ?_
            try go_wp2
            go_ret
            exact ⟨er, bes⟩
/-- THE ONE PURE STATEMENT of gimballaw09_MatUnits: yours. -/
def gimballaw09_MatUnits.Pure : Prop := ∀ (a0 : Int) (a1 : Int) (a2 : Int) (l3 : List Int), (Lit.int .i64 a0).wf = true → (Lit.int .i64 a1).wf = true → (Lit.int .i64 a2).wf = true → l3.length ≤ maxLen → l3.length * 8 ≤ 140737488351232 → (∀ x ∈ l3, (Lit.int .u64 x).wf = true) → ∃ k, gimballaw09_MatUnits.f k a0 a1 a2 l3 = some true
theorem gimballaw09_MatUnits.walk (P : gimballaw09_MatUnits.Pure) (a0 : Int) (a1 : Int) (a2 : Int) (a3 : Option Addr) (len3 cap3 : Nat) (z3 : List Int) (w : World) (w0 : (Lit.int .i64 a0).wf = true) (w1 : (Lit.int .i64 a1).wf = true) (w2 : (Lit.int .i64 a2).wf = true) (w3 : (a3 = none ∧ len3 = 0 ∧ cap3 = 0 ∧ z3 = []) ∨ ∃ x, a3 = some x ∧ len3 ≤ cap3 ∧ cap3 ≤ maxLen ∧ z3.length = cap3 ∧ (∀ i, i < z3.length → w.cell? (x.add i) = some (.int .u64 (z3.getD i 0))) ∧ ∀ n ∈ z3, (Lit.int .u64 n).wf = true) (y3 : len3 * 8 ≤ 140737488351232) (hT : TabW w) :
  Calls Tryd.prog 3 #[.int .i64 a0, .int .i64 a1, .int .i64 a2, .slice a3 len3 cap3] w fun e w' => e = .returned (.bool true) ∧ Below w.heap.size w w' := by
 obtain ⟨l3, rfl, hr3, hm3, hw3, hc3⟩ := ReadsInt.ofRowC w3
 obtain ⟨k, h⟩ := P a0 a1 a2 l3 w0 w1 w2 hm3 y3 hw3
 refine (gimballaw09_MatUnits.calls k a0 a1 a2 _ _ l3 true w (Kd.C_of_reads (d := (0 : Int)) (h1 := fun _ => rfl) hr3) hc3 hT rfl h).mono ?_
 rintro e w' ⟨rfl, hd⟩
 exact ⟨rfl, hd⟩

end Go.Proofs.YtenegelkbfmjkaaDoor.F
