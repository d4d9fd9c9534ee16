-- Written by a program of this seat's session (mkprint), out of the translation.
import Derived.Test.YtakegikedpcilaaDoorShort
import Derived.Test.YtakegikedpcilaaDoorFx0
import Derived.Test.YtakegikedpcilaaDoorFx2
import Derived.Test.YtakegikedpcilaaDoorFx4
import Derived.Test.YtakegikedpcilaaDoorFx8
import Derived.Test.YtakegikedpcilaaDoorFx9
import Derived.Test.YtakegikedpcilaaDoorFx11
import Derived.Test.YtakegikedpcilaaDoorFx17
namespace Go.Proofs.YtakegikedpcilaaDoor.F
open Go.RowKit Go.Proofs.YtakegikedpcilaaDoorW.PrintWords Go.Proofs.YtakegikedpcilaaDoorW.PrintLast Go.Proofs.YtakegikedpcilaaDoorW.PrintMore
attribute [local go_sem] max2_int min2_int max_two min_two max_three min_three max_four min_four   -- for this text's walks alone
set_option linter.unusedVariables false
set_option linter.unusedSimpArgs false

/-! ### gimballaw07_DyadSums: function 4 -/
def gimballaw07_DyadSums.j0 : Nat → Bool → Option (Bool)
 | 0, _ => none
 | k + 1, x4 => some x4
def gimballaw07_DyadSums.f (k : Nat) (a0 : Int) (a1 : Int) : Option (Bool) := (gimballaw07_head.f k).bind fun t741 => (if t741 = true then ((gimballaw07_small.f a0).bind fun t742 => ((gimballaw07_small.f a1).bind fun t743 => ((word_Neg.f t742).bind fun t744 => ((word_Neg.f t743).bind fun t746 => ((word_Parts.f k t742).bind fun bt748 => ((gimbalref02_Of.f k bt748.1).bind fun t750 => ((word_Parts.f k t743).bind fun bt753 => ((gimbalref02_Of.f k bt753.1).bind fun t755 => ((gimballaw07_of.f k t742).bind fun bt759 => ((gimballaw07_is.f k bt759.1 bt759.2.1 bt759.2.2 t744 t750 bt748.2).bind fun t764 => (if t764 = true then ((gimballaw07_of.f k t742).bind fun bt765 => ((gimballaw07_of.f k t743).bind fun bt770 => ((dyad_Num_Add.f k bt765.1 bt765.2.1 bt765.2.2 bt770.1 bt770.2.1 bt770.2.2).bind fun bt775 => ((gimballaw07_add.f k t744 t750 bt748.2 t746 t755 bt753.2).bind fun bt780 => ((gimballaw07_is.f k bt775.1 bt775.2.1 bt775.2.2 bt780.1 bt780.2.1 bt780.2.2).bind fun t785 => (if t785 = true then ((gimballaw07_of.f k t742).bind fun bt786 => ((gimballaw07_of.f k t743).bind fun bt791 => ((dyad_Num_Sub.f k bt786.1 bt786.2.1 bt786.2.2 bt791.1 bt791.2.1 bt791.2.2).bind fun bt796 => ((gimballaw07_add.f k t744 t750 bt748.2 (!t746) t755 bt753.2).bind fun bt801 => ((gimballaw07_is.f k bt796.1 bt796.2.1 bt796.2.2 bt801.1 bt801.2.1 bt801.2.2).bind fun t806 => (if t806 = true then ((gimballaw07_of.f k t742).bind fun bt807 => ((gimballaw07_of.f k t743).bind fun bt812 => ((dyad_Num_Mul.f k bt807.1 bt807.2.1 bt807.2.2 bt812.1 bt812.2.1 bt812.2.2).bind fun bt817 => ((gimballaw07_mul.f k t744 t750 bt748.2 t746 t755 bt753.2).bind fun bt822 => ((gimballaw07_is.f k bt817.1 bt817.2.1 bt817.2.2 bt822.1 bt822.2.1 bt822.2.2).bind fun t827 => (gimballaw07_DyadSums.j0 k t827)))))) else (gimballaw07_DyadSums.j0 k false))))))) else (gimballaw07_DyadSums.j0 k false))))))) else (gimballaw07_DyadSums.j0 k false)))))))))))) else (some false))
theorem gimballaw07_DyadSums.mono_l : ∀ k, (∀ y0, LeO (gimballaw07_DyadSums.j0 k y0) (gimballaw07_DyadSums.j0 (k + 1) y0))
 | 0 => fun _ r h => by simp [gimballaw07_DyadSums.j0] at h
 | k + 1 => by
  have ih0 := gimballaw07_DyadSums.mono_l k
  ·
   intro y0
   unfold gimballaw07_DyadSums.j0
   repeat' with_reducible first | apply ih0 | apply dyad_Num_Add.mono | apply dyad_Num_Mul.mono | apply dyad_Num_Sub.mono | apply gimballaw07_add.mono | apply gimballaw07_head.mono | apply gimballaw07_is.mono | apply gimballaw07_mul.mono | apply gimballaw07_of.mono | apply gimbalref02_Of.mono | apply word_Parts.mono | exact LeO.refl _ | exact LeO.none _ | refine LeO.ite ?_ ?_ | refine LeO.bind ?_ (fun _ => ?_)
theorem gimballaw07_DyadSums.mono : ∀ a0 a1 k, LeO (gimballaw07_DyadSums.f k a0 a1) (gimballaw07_DyadSums.f (k + 1) a0 a1) := by
 intro a0 a1 k
 have ih0 := gimballaw07_DyadSums.mono_l k
 unfold gimballaw07_DyadSums.f
 repeat' with_reducible first | apply ih0 | apply dyad_Num_Add.mono | apply dyad_Num_Mul.mono | apply dyad_Num_Sub.mono | apply gimballaw07_add.mono | apply gimballaw07_head.mono | apply gimballaw07_is.mono | apply gimballaw07_mul.mono | apply gimballaw07_of.mono | apply gimbalref02_Of.mono | apply word_Parts.mono | exact LeO.refl _ | exact LeO.none _ | refine LeO.ite ?_ ?_ | refine LeO.bind ?_ (fun _ => ?_)
def gimballaw07_DyadSums.T15 : Bool × List (List Nat × List Nat) := (true, [([], []), ([0], [0]), ([], []), ([1, 2, 1], [1, 2]), ([3, 3], [3]), ([4], [4]), ([5, 4, 4], [4, 5]), ([4], [4]), ([7, 6, 4], [4, 7]), ([6, 8, 8, 4], [4, 6, 8]), ([4], [4]), ([4], [4]), ([10, 11, 9, 4], [4, 10, 11]), ([9, 12, 12, 4], [4, 9, 12]), ([4, 13], [4, 13]), ([14, 13], [14]), ([15], [15]), ([16, 15, 15], [15, 16]), ([15], [15]), ([18, 17, 15], [15, 18]), ([17, 19, 19, 15], [15, 17, 19]), ([15], [15]), ([15], [15]), ([21, 22, 20, 15], [15, 21, 22]), ([20, 23, 23, 15], [15, 20, 23]), ([15, 24], [15, 24]), ([25, 24], [25]), ([26], [26]), ([27, 26, 26], [26, 27]), ([26], [26]), ([29, 28, 26], [26, 29]), ([28, 30, 30, 26], [26, 28, 30]), ([26], [26]), ([26], [26]), ([32, 33, 31, 26], [26, 32, 33]), ([31, 34, 34, 26], [26, 31, 34]), ([26, 35], [26, 35]), ([36, 35, 0, 1, 2, 3, 4, 5, 6, 7, 8, 9, 10, 11, 12, 13, 14, 15, 16, 17, 18, 19, 20, 21, 22, 23, 24, 25, 26, 27, 28, 29, 30, 31, 32, 33, 34, 35, 36], [36])])
def gimballaw07_DyadSums.B15 : List Nat := [0, 1, 0, 7, 15, 31, 63, 31, 255, 511, 31, 31, 4095, 8191, 16383, 32767, 65535, 131071, 65535, 524287, 1048575, 65535, 65535, 8388607, 16777215, 33554431, 67108863, 134217727, 268435455, 134217727, 1073741823, 2147483647, 134217727, 134217727, 17179869183, 34359738367, 68719476735, 137438953471]
theorem gimballaw07_DyadSums.tab15 : rtab .any (opsOf Tryd.f4 15) = gimballaw07_DyadSums.T15 := by kernel_rfl
theorem gimballaw07_DyadSums.bits15 : waitsOk gimballaw07_DyadSums.T15.2 gimballaw07_DyadSums.B15 = true := by kernel_rfl
set_option maxHeartbeats 8000000 in
set_option maxRecDepth 100000 in
theorem gimballaw07_DyadSums.calls (k : Nat) (a0 : Int) (a1 : Int) (r : Bool) (w : World) (hT : TabW w) (hLW : r = true) (h : gimballaw07_DyadSums.f k a0 a1 = some r) :
  Calls Tryd.prog 4 #[.int .u64 a0, .int .u64 a1] w fun e w' => e = .returned (.bool r) ∧ Below w.heap.size w w' := by
 have hu41 := Tryd.underlying41
 have HB := Aside0.mk (Below.refl w.heap.size w)
 have H : ((gimballaw07_head.f k).bind fun t741 => (if t741 = true then ((gimballaw07_small.f a0).bind fun t742 => ((gimballaw07_small.f a1).bind fun t743 => ((word_Neg.f t742).bind fun t744 => ((word_Neg.f t743).bind fun t746 => ((word_Parts.f k t742).bind fun bt748 => ((gimbalref02_Of.f k bt748.1).bind fun t750 => ((word_Parts.f k t743).bind fun bt753 => ((gimbalref02_Of.f k bt753.1).bind fun t755 => ((gimballaw07_of.f k t742).bind fun bt759 => ((gimballaw07_is.f k bt759.1 bt759.2.1 bt759.2.2 t744 t750 bt748.2).bind fun t764 => (if t764 = true then ((gimballaw07_of.f k t742).bind fun bt765 => ((gimballaw07_of.f k t743).bind fun bt770 => ((dyad_Num_Add.f k bt765.1 bt765.2.1 bt765.2.2 bt770.1 bt770.2.1 bt770.2.2).bind fun bt775 => ((gimballaw07_add.f k t744 t750 bt748.2 t746 t755 bt753.2).bind fun bt780 => ((gimballaw07_is.f k bt775.1 bt775.2.1 bt775.2.2 bt780.1 bt780.2.1 bt780.2.2).bind fun t785 => (if t785 = true then ((gimballaw07_of.f k t742).bind fun bt786 => ((gimballaw07_of.f k t743).bind fun bt791 => ((dyad_Num_Sub.f k bt786.1 bt786.2.1 bt786.2.2 bt791.1 bt791.2.1 bt791.2.2).bind fun bt796 => ((gimballaw07_add.f k t744 t750 bt748.2 (!t746) t755 bt753.2).bind fun bt801 => ((gimballaw07_is.f k bt796.1 bt796.2.1 bt796.2.2 bt801.1 bt801.2.1 bt801.2.2).bind fun t806 => (if t806 = true then ((gimballaw07_of.f k t742).bind fun bt807 => ((gimballaw07_of.f k t743).bind fun bt812 => ((dyad_Num_Mul.f k bt807.1 bt807.2.1 bt807.2.2 bt812.1 bt812.2.1 bt812.2.2).bind fun bt817 => ((gimballaw07_mul.f k t744 t750 bt748.2 t746 t755 bt753.2).bind fun bt822 => ((gimballaw07_is.f k bt817.1 bt817.2.1 bt817.2.2 bt822.1 bt822.2.1 bt822.2.2).bind fun t827 => (gimballaw07_DyadSums.j0 k t827)))))) else (gimballaw07_DyadSums.j0 k false))))))) else (gimballaw07_DyadSums.j0 k false))))))) else (gimballaw07_DyadSums.j0 k false)))))))))))) else (some false))) = some r := h
 clear h
 obtain ⟨t741, A30, H⟩ := Option.bind_eq_some_iff.mp H
 (try dsimp -simprocs only at H)
 have A3 := Aside0.mk A30
 clear A30
 by_cases c4 : t741 = true
 rotate_left
 ·
  replace c4 := Bool.eq_false_iff.mpr c4
  subst c4
  rw [if_neg (show ¬ (false = true) by decide)] at H
  rw [hLW] at H
  exact absurd H (by simp)

 subst c4
 rw [if_pos rfl] at H
 obtain ⟨t742, A50, H⟩ := Option.bind_eq_some_iff.mp H
 (try dsimp -simprocs only at H)
 have A5 := Aside0.mk A50
 clear A50
 obtain ⟨t743, A60, H⟩ := Option.bind_eq_some_iff.mp H
 (try dsimp -simprocs only at H)
 have A6 := Aside0.mk A60
 clear A60
 obtain ⟨t744, A70, H⟩ := Option.bind_eq_some_iff.mp H
 (try dsimp -simprocs only at H)
 have A7 := Aside0.mk A70
 clear A70
 obtain ⟨t746, A80, H⟩ := Option.bind_eq_some_iff.mp H
 (try dsimp -simprocs only at H)
 have A8 := Aside0.mk A80
 clear A80
 obtain ⟨⟨t748, t749⟩, A90, H⟩ := Option.bind_eq_some_iff.mp H
 (try dsimp -simprocs only at H)
 have A9 := Aside0.mk A90
 clear A90
 obtain ⟨t750, A100, H⟩ := Option.bind_eq_some_iff.mp H
 (try dsimp -simprocs only at H)
 have A10 := Aside0.mk A100
 clear A100
 obtain ⟨⟨t753, t754⟩, A110, H⟩ := Option.bind_eq_some_iff.mp H
 (try dsimp -simprocs only at H)
 have A11 := Aside0.mk A110
 clear A110
 obtain ⟨t755, A120, H⟩ := Option.bind_eq_some_iff.mp H
 (try dsimp -simprocs only at H)
 have A12 := Aside0.mk A120
 clear A120
 have HC13 := Aside0.mk H
 clear H
 go_enter Tryd.func4, Tryd.ntmps4
 go_upto_region 15 with (first | ((with_reducible refine gate_callee (f := 7) rfl ?_); refine goesL_ (some 12) rfl rfl Tryd.func7 (by kernel_rfl) rfl #[] rfl ga ?_; (with_reducible refine (gimballaw07_head.calls k  true _ ?side1 A3.out).mono ?_); (case side1 => first | exact hT | exact TabW.drewN hT _ | exact TabW.drew hT | exact TabW.below hT bel); rintro e w14 ⟨rfl, hb⟩; refine ⟨_, rfl, ?_⟩; refine ax1 (below_step bel hb) ?_; clear HB; intro HB; (try clear hb)) | ((with_reducible refine gate_callee (f := 16) rfl ?_); refine goesL_ (some 15) rfl rfl Tryd.func16 (by kernel_rfl) rfl #[.int .u64 a0] rfl ga ?_; (with_reducible refine (gimballaw07_small.calls a0 t742 _ A5.out).mono ?_); rintro e w' ⟨rfl, ⟨nd, rfl⟩⟩; refine ⟨_, rfl, ?_⟩; (try (rw [drewN_self w14]; generalize hq_ : World.drewN w14 _ = w14; have n0_ : Aside0 (Below w.heap.size w w14) := ⟨by rw [← hq_]; exact bel⟩; clear HB hq_; have HB := n0_; clear n0_))) | ((with_reducible refine gate_callee (f := 16) rfl ?_); refine goesL_ (some 17) rfl rfl Tryd.func16 (by kernel_rfl) rfl #[.int .u64 a1] rfl ga ?_; (with_reducible refine (gimballaw07_small.calls a1 t743 _ A6.out).mono ?_); rintro e w' ⟨rfl, ⟨nd, rfl⟩⟩; refine ⟨_, rfl, ?_⟩; (try (rw [drewN_self w14]; generalize hq_ : World.drewN w14 _ = w14; have n0_ : Aside0 (Below w.heap.size w w14) := ⟨by rw [← hq_]; exact bel⟩; clear HB hq_; have HB := n0_; clear n0_))) | ((with_reducible refine gate_callee (f := 17) rfl ?_); refine goesL_ (some 19) rfl rfl Tryd.func17 (by kernel_rfl) rfl #[.int .u64 t742] rfl ga ?_; (with_reducible refine (word_Neg.calls t742 t744 _ A7.out).mono ?_); rintro e w' ⟨rfl, ⟨nd, rfl⟩⟩; refine ⟨_, rfl, ?_⟩; (try (rw [drewN_self w14]; generalize hq_ : World.drewN w14 _ = w14; have n0_ : Aside0 (Below w.heap.size w w14) := ⟨by rw [← hq_]; exact bel⟩; clear HB hq_; have HB := n0_; clear n0_))) | ((with_reducible refine gate_dst (N := 5) rfl ?_); refine gbox (N := 5) (cs := #[.bool false, .slice none 0 0, .int .i64 0]) (t := 41) ?_; intro gb745 hg w15 hbox hb; refine ax4 (below_step bel hb) hbox ((ge hg : w.heap.size ≤ gb745)) ((ge hg : w.heap.size ≤ gb745)) ?_; clear HB; intro HB BK745 GW745 GE745; clear hb hbox hg; have hcz16_0 := bc BK745 0 rfl; have hcz16_1 := bc BK745 1 rfl; have hcz16_2 := bc BK745 2 rfl; have hfz16_0 := blk_frozen BK745.out 0; have hfz16_1 := blk_frozen BK745.out 1; have hfz16_2 := blk_frozen BK745.out 2) | ((with_reducible refine gate_callee (f := 17) rfl ?_); refine goesL_ (some 22) rfl rfl Tryd.func17 (by kernel_rfl) rfl #[.int .u64 t743] rfl ga ?_; (with_reducible refine (word_Neg.calls t743 t746 _ A8.out).mono ?_); rintro e w' ⟨rfl, ⟨nd, rfl⟩⟩; refine ⟨_, rfl, ?_⟩) | ((with_reducible refine gate_dst (N := 6) rfl ?_); refine gbox (N := 6) (cs := #[.bool false, .slice none 0 0, .int .i64 0]) (t := 41) ?_; intro gb747 hg w17 hbox hb; refine ax7 (blk_below (g := gb745) (o := .cells #[.bool t744, .slice none 0 0, .int .i64 0] 41 (0, 0)) (by (with_reducible repeat (first | refine blk_drewN ?_ _ | refine blk_drew ?_ | refine blk_alloc ?_ _)); refine blk_put (cs := #[.bool t744, .slice none 0 0, .int .i64 0]) ?_ 2 _ rfl; (with_reducible repeat (first | refine blk_drewN ?_ _ | refine blk_drew ?_ | refine blk_alloc ?_ _)); refine blk_put (cs := #[.bool t744, .slice none 0 0, .int .i64 0]) ?_ 1 _ rfl; (with_reducible repeat (first | refine blk_drewN ?_ _ | refine blk_drew ?_ | refine blk_alloc ?_ _)); refine blk_put (cs := #[.bool false, .slice none 0 0, .int .i64 0]) ?_ 0 _ rfl; (with_reducible repeat (first | refine blk_drewN ?_ _ | refine blk_drew ?_ | refine blk_alloc ?_ _)); exact BK745.out) hb) (below_step bes hb) hbox ((ge hg : w.heap.size ≤ gb747)) ((ge hg : w.heap.size ≤ gb747)) ((by rw [hg]; exact Nat.ne_of_lt (blk_lt (g := gb745) (o := .cells #[.bool t744, .slice none 0 0, .int .i64 0] 41 (0, 0)) (by (with_reducible repeat (first | refine blk_drewN ?_ _ | refine blk_drew ?_ | refine blk_alloc ?_ _)); refine blk_put (cs := #[.bool t744, .slice none 0 0, .int .i64 0]) ?_ 2 _ rfl; (with_reducible repeat (first | refine blk_drewN ?_ _ | refine blk_drew ?_ | refine blk_alloc ?_ _)); refine blk_put (cs := #[.bool t744, .slice none 0 0, .int .i64 0]) ?_ 1 _ rfl; (with_reducible repeat (first | refine blk_drewN ?_ _ | refine blk_drew ?_ | refine blk_alloc ?_ _)); refine blk_put (cs := #[.bool false, .slice none 0 0, .int .i64 0]) ?_ 0 _ rfl; (with_reducible repeat (first | refine blk_drewN ?_ _ | refine blk_drew ?_ | refine blk_alloc ?_ _)); exact BK745.out)) : gb745 ≠ gb747)) ((by rw [hg]; exact Nat.ne_of_gt (blk_lt (g := gb745) (o := .cells #[.bool t744, .slice none 0 0, .int .i64 0] 41 (0, 0)) (by (with_reducible repeat (first | refine blk_drewN ?_ _ | refine blk_drew ?_ | refine blk_alloc ?_ _)); refine blk_put (cs := #[.bool t744, .slice none 0 0, .int .i64 0]) ?_ 2 _ rfl; (with_reducible repeat (first | refine blk_drewN ?_ _ | refine blk_drew ?_ | refine blk_alloc ?_ _)); refine blk_put (cs := #[.bool t744, .slice none 0 0, .int .i64 0]) ?_ 1 _ rfl; (with_reducible repeat (first | refine blk_drewN ?_ _ | refine blk_drew ?_ | refine blk_alloc ?_ _)); refine blk_put (cs := #[.bool false, .slice none 0 0, .int .i64 0]) ?_ 0 _ rfl; (with_reducible repeat (first | refine blk_drewN ?_ _ | refine blk_drew ?_ | refine blk_alloc ?_ _)); exact BK745.out)) : gb747 ≠ gb745)) ?_; clear BK745; clear HB; intro BK745 HB BK747 GW747 GE747 NB745_747 NB747_745; clear hb hbox hg; have hnb18 := NB747_745.out; have hnc18 := NB745_747.out; have hcz19_0 := bc BK747 0 rfl; have hcz19_1 := bc BK747 1 rfl; have hcz19_2 := bc BK747 2 rfl; have hfz19_0 := blk_frozen BK747.out 0; have hfz19_1 := blk_frozen BK747.out 1; have hfz19_2 := blk_frozen BK747.out 2) | ((with_reducible refine gate_callee (f := 18) rfl ?_); refine goesL_ (some 26) rfl rfl Tryd.func18 (by kernel_rfl) rfl #[.int .u64 t742] rfl ga ?_; (with_reducible refine (word_Parts.calls k t742 t748 t749 _ A9.out).mono ?_); rintro e w' ⟨rfl, ⟨nd, rfl⟩⟩; refine ⟨_, rfl, ?_⟩) | ((with_reducible refine gate_callee (f := 19) rfl ?_); refine goesL_ (some 30) rfl rfl Tryd.func19 (by kernel_rfl) rfl #[.int .u64 t748] rfl ga ?_; (with_reducible refine (gimbalref02_Of.calls k t748 t750 _ A10.out).mono ?_); rintro e w20 ⟨v751, rfl, ho0, hb⟩; refine ⟨_, rfl, ?_⟩; refine ax4 (Kd.R_lower ho0 (below_size bes)) (blk_below (g := gb745) (o := .cells #[.bool t744, .slice none 0 0, .int .i64 0] 41 (0, 0)) (by (with_reducible repeat (first | refine blk_drewN ?_ _ | refine blk_drew ?_ | refine blk_alloc ?_ _)); refine blk_far ?_ NB745_747.out _; (with_reducible repeat (first | refine blk_drewN ?_ _ | refine blk_drew ?_ | refine blk_alloc ?_ _)); refine blk_far ?_ NB745_747.out _; (with_reducible repeat (first | refine blk_drewN ?_ _ | refine blk_drew ?_ | refine blk_alloc ?_ _)); refine blk_far ?_ NB745_747.out _; (with_reducible repeat (first | refine blk_drewN ?_ _ | refine blk_drew ?_ | refine blk_alloc ?_ _)); exact BK745.out) hb) (blk_below (g := gb747) (o := .cells #[.bool t746, .slice none 0 0, .int .i64 0] 41 (0, 0)) (by (with_reducible repeat (first | refine blk_drewN ?_ _ | refine blk_drew ?_ | refine blk_alloc ?_ _)); refine blk_put (cs := #[.bool t746, .slice none 0 0, .int .i64 0]) ?_ 2 _ rfl; (with_reducible repeat (first | refine blk_drewN ?_ _ | refine blk_drew ?_ | refine blk_alloc ?_ _)); refine blk_put (cs := #[.bool t746, .slice none 0 0, .int .i64 0]) ?_ 1 _ rfl; (with_reducible repeat (first | refine blk_drewN ?_ _ | refine blk_drew ?_ | refine blk_alloc ?_ _)); refine blk_put (cs := #[.bool false, .slice none 0 0, .int .i64 0]) ?_ 0 _ rfl; (with_reducible repeat (first | refine blk_drewN ?_ _ | refine blk_drew ?_ | refine blk_alloc ?_ _)); exact BK747.out) hb) (below_step bes hb) ?_; clear BK745; clear BK747; clear HB; intro HO752 BK745 BK747 HB; (try clear hb); (try clear ho0); obtain ⟨Ao21, co21, eo21⟩ := Kd.R_slice HO752.out; subst eo21; have hcz22_0 := bc BK745 0 rfl; have hcz22_1 := bc BK745 1 rfl; have hcz22_2 := bc BK745 2 rfl; have hfz22_0 := blk_frozen BK745.out 0; have hfz22_1 := blk_frozen BK745.out 1; have hfz22_2 := blk_frozen BK745.out 2) | ((with_reducible refine gate_callee (f := 18) rfl ?_); refine goesL_ (some 36) rfl rfl Tryd.func18 (by kernel_rfl) rfl #[.int .u64 t743] rfl ga ?_; (with_reducible refine (word_Parts.calls k t743 t753 t754 _ A11.out).mono ?_); rintro e w' ⟨rfl, ⟨nd, rfl⟩⟩; refine ⟨_, rfl, ?_⟩) | ((with_reducible refine gate_callee (f := 19) rfl ?_); refine goesL_ (some 40) rfl rfl Tryd.func19 (by kernel_rfl) rfl #[.int .u64 t753] rfl ga ?_; (with_reducible refine (gimbalref02_Of.calls k t753 t755 _ A12.out).mono ?_); rintro e w23 ⟨v756, rfl, ho0, hb⟩; refine ⟨_, rfl, ?_⟩; refine ax5 (Kd.R_elder' (by (with_reducible repeat (first | apply Kd.R_alloc | apply Kd.R_drewN | apply Kd.R_drew)); exact (Kd.R_mono (Kd.R_far (p := ⟨gb745, 2, none⟩) (Kd.R_far (p := ⟨gb745, 1, none⟩) (Kd.R_types HO752.out BK745.out (by decide)) (fun _ hk => hk.2) (.slice Ao21 t750.length co21)) (fun _ hk => hk.2) (.int .i64 t749)) (fun _ h_ => h_.1))) (Kd.R_base ho0) hb) (Kd.R_lower (Kd.R_new' ho0 (Kd.R_lt (by (with_reducible repeat (first | apply Kd.R_alloc | apply Kd.R_drewN | apply Kd.R_drew)); exact (Kd.R_mono (Kd.R_far (p := ⟨gb745, 2, none⟩) (Kd.R_far (p := ⟨gb745, 1, none⟩) (Kd.R_types HO752.out BK745.out (by decide)) (fun _ hk => hk.2) (.slice Ao21 t750.length co21)) (fun _ hk => hk.2) (.int .i64 t749)) (fun _ h_ => h_.1))))) (below_size bes)) (blk_below (g := gb745) (o := .cells #[.bool t744, .slice Ao21 t750.length co21, .int .i64 t749] 41 (0, 0)) (by (with_reducible repeat (first | refine blk_drewN ?_ _ | refine blk_drew ?_ | refine blk_alloc ?_ _)); refine blk_put (cs := #[.bool t744, .slice Ao21 t750.length co21, .int .i64 0]) ?_ 2 _ rfl; (with_reducible repeat (first | refine blk_drewN ?_ _ | refine blk_drew ?_ | refine blk_alloc ?_ _)); refine blk_put (cs := #[.bool t744, .slice none 0 0, .int .i64 0]) ?_ 1 _ rfl; (with_reducible repeat (first | refine blk_drewN ?_ _ | refine blk_drew ?_ | refine blk_alloc ?_ _)); exact BK745.out) hb) (blk_below (g := gb747) (o := .cells #[.bool t746, .slice none 0 0, .int .i64 0] 41 (0, 0)) (by (with_reducible repeat (first | refine blk_drewN ?_ _ | refine blk_drew ?_ | refine blk_alloc ?_ _)); refine blk_far ?_ NB747_745.out _; (with_reducible repeat (first | refine blk_drewN ?_ _ | refine blk_drew ?_ | refine blk_alloc ?_ _)); refine blk_far ?_ NB747_745.out _; (with_reducible repeat (first | refine blk_drewN ?_ _ | refine blk_drew ?_ | refine blk_alloc ?_ _)); exact BK747.out) hb) (below_step bes hb) ?_; clear HO752; clear BK745; clear BK747; clear HB; intro HO752 HO757 BK745 BK747 HB; (try clear hb); (try clear ho0); obtain ⟨Ao24, co24, eo24⟩ := Kd.R_slice HO757.out; subst eo24; have hcz25_0 := bc BK747 0 rfl; have hcz25_1 := bc BK747 1 rfl; have hcz25_2 := bc BK747 2 rfl; have hfz25_0 := blk_frozen BK747.out 0; have hfz25_1 := blk_frozen BK747.out 1; have hfz25_2 := blk_frozen BK747.out 2) | ((with_reducible refine gate_dst (N := 11) rfl ?_); refine gbox (N := 11) (cs := #[.bool false, .slice none 0 0, .int .i64 0]) (t := 41) ?_; intro gb758 hg w26 hbox hb; refine ax12 (Kd.R_below (by (with_reducible repeat (first | apply Kd.R_alloc | apply Kd.R_drewN | apply Kd.R_drew)); exact (Kd.R_mono (Kd.R_far (p := ⟨gb747, 2, none⟩) (Kd.R_far (p := ⟨gb747, 1, none⟩) (Kd.R_types HO752.out BK747.out (by decide)) (fun _ hk => hk.2) (.slice Ao24 t755.length co24)) (fun _ hk => hk.2) (.int .i64 t754)) (fun _ h_ => h_.1))) hb) (Kd.R_below (by (with_reducible repeat (first | apply Kd.R_alloc | apply Kd.R_drewN | apply Kd.R_drew)); exact (Kd.R_mono (Kd.R_far (p := ⟨gb747, 2, none⟩) (Kd.R_far (p := ⟨gb747, 1, none⟩) (Kd.R_types HO757.out BK747.out (by decide)) (fun _ hk => hk.2) (.slice Ao24 t755.length co24)) (fun _ hk => hk.2) (.int .i64 t754)) (fun _ h_ => h_.1))) hb) (blk_below (g := gb745) (o := .cells #[.bool t744, .slice Ao21 t750.length co21, .int .i64 t749] 41 (0, 0)) (by (with_reducible repeat (first | refine blk_drewN ?_ _ | refine blk_drew ?_ | refine blk_alloc ?_ _)); refine blk_far ?_ NB745_747.out _; (with_reducible repeat (first | refine blk_drewN ?_ _ | refine blk_drew ?_ | refine blk_alloc ?_ _)); refine blk_far ?_ NB745_747.out _; (with_reducible repeat (first | refine blk_drewN ?_ _ | refine blk_drew ?_ | refine blk_alloc ?_ _)); exact BK745.out) hb) (blk_below (g := gb747) (o := .cells #[.bool t746, .slice Ao24 t755.length co24, .int .i64 t754] 41 (0, 0)) (by (with_reducible repeat (first | refine blk_drewN ?_ _ | refine blk_drew ?_ | refine blk_alloc ?_ _)); refine blk_put (cs := #[.bool t746, .slice Ao24 t755.length co24, .int .i64 0]) ?_ 2 _ rfl; (with_reducible repeat (first | refine blk_drewN ?_ _ | refine blk_drew ?_ | refine blk_alloc ?_ _)); refine blk_put (cs := #[.bool t746, .slice none 0 0, .int .i64 0]) ?_ 1 _ rfl; (with_reducible repeat (first | refine blk_drewN ?_ _ | refine blk_drew ?_ | refine blk_alloc ?_ _)); exact BK747.out) hb) (below_step bes hb) hbox ((ge hg : w.heap.size ≤ gb758)) ((ge hg : w.heap.size ≤ gb758)) ((by rw [hg]; exact Nat.ne_of_lt (blk_lt (g := gb745) (o := .cells #[.bool t744, .slice Ao21 t750.length co21, .int .i64 t749] 41 (0, 0)) (by (with_reducible repeat (first | refine blk_drewN ?_ _ | refine blk_drew ?_ | refine blk_alloc ?_ _)); refine blk_far ?_ NB745_747.out _; (with_reducible repeat (first | refine blk_drewN ?_ _ | refine blk_drew ?_ | refine blk_alloc ?_ _)); refine blk_far ?_ NB745_747.out _; (with_reducible repeat (first | refine blk_drewN ?_ _ | refine blk_drew ?_ | refine blk_alloc ?_ _)); exact BK745.out)) : gb745 ≠ gb758)) ((by rw [hg]; exact Nat.ne_of_gt (blk_lt (g := gb745) (o := .cells #[.bool t744, .slice Ao21 t750.length co21, .int .i64 t749] 41 (0, 0)) (by (with_reducible repeat (first | refine blk_drewN ?_ _ | refine blk_drew ?_ | refine blk_alloc ?_ _)); refine blk_far ?_ NB745_747.out _; (with_reducible repeat (first | refine blk_drewN ?_ _ | refine blk_drew ?_ | refine blk_alloc ?_ _)); refine blk_far ?_ NB745_747.out _; (with_reducible repeat (first | refine blk_drewN ?_ _ | refine blk_drew ?_ | refine blk_alloc ?_ _)); exact BK745.out)) : gb758 ≠ gb745)) ((by rw [hg]; exact Nat.ne_of_lt (blk_lt (g := gb747) (o := .cells #[.bool t746, .slice Ao24 t755.length co24, .int .i64 t754] 41 (0, 0)) (by (with_reducible repeat (first | refine blk_drewN ?_ _ | refine blk_drew ?_ | refine blk_alloc ?_ _)); refine blk_put (cs := #[.bool t746, .slice Ao24 t755.length co24, .int .i64 0]) ?_ 2 _ rfl; (with_reducible repeat (first | refine blk_drewN ?_ _ | refine blk_drew ?_ | refine blk_alloc ?_ _)); refine blk_put (cs := #[.bool t746, .slice none 0 0, .int .i64 0]) ?_ 1 _ rfl; (with_reducible repeat (first | refine blk_drewN ?_ _ | refine blk_drew ?_ | refine blk_alloc ?_ _)); exact BK747.out)) : gb747 ≠ gb758)) ((by rw [hg]; exact Nat.ne_of_gt (blk_lt (g := gb747) (o := .cells #[.bool t746, .slice Ao24 t755.length co24, .int .i64 t754] 41 (0, 0)) (by (with_reducible repeat (first | refine blk_drewN ?_ _ | refine blk_drew ?_ | refine blk_alloc ?_ _)); refine blk_put (cs := #[.bool t746, .slice Ao24 t755.length co24, .int .i64 0]) ?_ 2 _ rfl; (with_reducible repeat (first | refine blk_drewN ?_ _ | refine blk_drew ?_ | refine blk_alloc ?_ _)); refine blk_put (cs := #[.bool t746, .slice none 0 0, .int .i64 0]) ?_ 1 _ rfl; (with_reducible repeat (first | refine blk_drewN ?_ _ | refine blk_drew ?_ | refine blk_alloc ?_ _)); exact BK747.out)) : gb758 ≠ gb747)) ?_; clear HO752; clear HO757; clear BK745; clear BK747; clear HB; intro HO752 HO757 BK745 BK747 HB BK758 GW758 GE758 NB745_758 NB758_745 NB747_758 NB758_747; clear hb hbox hg; have hnb27 := NB758_745.out; have hnc27 := NB745_758.out; have hnb28 := NB758_747.out; have hnc28 := NB747_758.out; have hcz29_0 := bc BK758 0 rfl; have hcz29_1 := bc BK758 1 rfl; have hcz29_2 := bc BK758 2 rfl; have hfz29_0 := blk_frozen BK758.out 0; have hfz29_1 := blk_frozen BK758.out 1; have hfz29_2 := blk_frozen BK758.out 2))
 (try simp only [Act.put, sa0, sa1, sa2])
 go_cut [4] (fun v4 wc => ∃ (kq : Nat) (x4_12 : Bool), v4 = .bool x4_12 ∧ Aside0 (gimballaw07_DyadSums.j0 kq x4_12 = some r) ∧ Aside0 (kq ≤ k) ∧ Aside0 (Kd.R (Kd.int .i64) 3 wc w.heap.size (fun k_ => some k_ ≠ ((.slice Ao24 t755.length co24) : Value).ownBlock ∧ some k_ ≠ ((.slice Ao24 t755.length co24) : Value).ownBlock) (.slice Ao21 t750.length co21) t750) ∧ Aside0 (Kd.R (Kd.int .i64) 3 wc w.heap.size (fun k_ => some k_ ≠ ((.slice Ao21 t750.length co21) : Value).ownBlock) (.slice Ao24 t755.length co24) t755) ∧ Aside0 (Kd.R (Kd.int .i64) 3 wc w.heap.size (fun k_ => some k_ ≠ ((.slice Ao21 t750.length co21) : Value).ownBlock) (.slice Ao24 t755.length co24) t755) ∧ Aside0 (wc.heap[gb745]? = some (.cells #[.bool t744, (.slice Ao21 t750.length co21), .int .i64 t749] 41 (0, 0))) ∧ Aside0 (wc.heap[gb747]? = some (.cells #[.bool t746, (.slice Ao24 t755.length co24), .int .i64 t754] 41 (0, 0))) ∧ Aside0 (wc.heap[gb758]? = some (.cells #[.bool (!t746), (.slice Ao24 t755.length co24), .int .i64 t754] 41 (0, 0))) ∧ Aside0 (Below w.heap.size w wc))
 case first =>
  have H := HC13.out
  clear HC13
  obtain ⟨⟨t759, t760, t763⟩, A300, H⟩ := Option.bind_eq_some_iff.mp H
  (try dsimp -simprocs only at H)
  have A30 := Aside0.mk A300
  clear A300
  obtain ⟨t764, A310, H⟩ := Option.bind_eq_some_iff.mp H
  (try dsimp -simprocs only at H)
  have A31 := Aside0.mk A310
  clear A310
  by_cases c32 : t764 = true
  rotate_left
  ·
   replace c32 := Bool.eq_false_iff.mpr c32
   subst c32
   rw [if_neg (show ¬ (false = true) by decide)] at H
   rw [hLW] at H
   exact absurd H (by cases k <;> simp [gimballaw07_DyadSums.j0])
  subst c32
  rw [if_pos rfl] at H
  obtain ⟨⟨t765, t766, t769⟩, A330, H⟩ := Option.bind_eq_some_iff.mp H
  (try dsimp -simprocs only at H)
  have A33 := Aside0.mk A330
  clear A330
  obtain ⟨⟨t770, t771, t774⟩, A340, H⟩ := Option.bind_eq_some_iff.mp H
  (try dsimp -simprocs only at H)
  have A34 := Aside0.mk A340
  clear A340
  obtain ⟨⟨t775, t776, t779⟩, A350, H⟩ := Option.bind_eq_some_iff.mp H
  (try dsimp -simprocs only at H)
  have A35 := Aside0.mk A350
  clear A350
  obtain ⟨⟨t780, t781, t784⟩, A360, H⟩ := Option.bind_eq_some_iff.mp H
  (try dsimp -simprocs only at H)
  have A36 := Aside0.mk A360
  clear A360
  obtain ⟨t785, A370, H⟩ := Option.bind_eq_some_iff.mp H
  (try dsimp -simprocs only at H)
  have A37 := Aside0.mk A370
  clear A370
  by_cases c38 : t785 = true
  rotate_left
  ·
   replace c38 := Bool.eq_false_iff.mpr c38
   subst c38
   rw [if_neg (show ¬ (false = true) by decide)] at H
   rw [hLW] at H
   exact absurd H (by cases k <;> simp [gimballaw07_DyadSums.j0])
  subst c38
  rw [if_pos rfl] at H
  obtain ⟨⟨t786, t787, t790⟩, A390, H⟩ := Option.bind_eq_some_iff.mp H
  (try dsimp -simprocs only at H)
  have A39 := Aside0.mk A390
  clear A390
  obtain ⟨⟨t791, t792, t795⟩, A400, H⟩ := Option.bind_eq_some_iff.mp H
  (try dsimp -simprocs only at H)
  have A40 := Aside0.mk A400
  clear A400
  obtain ⟨⟨t796, t797, t800⟩, A410, H⟩ := Option.bind_eq_some_iff.mp H
  (try dsimp -simprocs only at H)
  have A41 := Aside0.mk A410
  clear A410
  obtain ⟨⟨t801, t802, t805⟩, A420, H⟩ := Option.bind_eq_some_iff.mp H
  (try dsimp -simprocs only at H)
  have A42 := Aside0.mk A420
  clear A420
  obtain ⟨t806, A430, H⟩ := Option.bind_eq_some_iff.mp H
  (try dsimp -simprocs only at H)
  have A43 := Aside0.mk A430
  clear A430
  by_cases c44 : t806 = true
  rotate_left
  ·
   replace c44 := Bool.eq_false_iff.mpr c44
   subst c44
   rw [if_neg (show ¬ (false = true) by decide)] at H
   rw [hLW] at H
   exact absurd H (by cases k <;> simp [gimballaw07_DyadSums.j0])
  subst c44
  rw [if_pos rfl] at H
  obtain ⟨⟨t807, t808, t811⟩, A450, H⟩ := Option.bind_eq_some_iff.mp H
  (try dsimp -simprocs only at H)
  have A45 := Aside0.mk A450
  clear A450
  obtain ⟨⟨t812, t813, t816⟩, A460, H⟩ := Option.bind_eq_some_iff.mp H
  (try dsimp -simprocs only at H)
  have A46 := Aside0.mk A460
  clear A460
  obtain ⟨⟨t817, t818, t821⟩, A470, H⟩ := Option.bind_eq_some_iff.mp H
  (try dsimp -simprocs only at H)
  have A47 := Aside0.mk A470
  clear A470
  obtain ⟨⟨t822, t823, t826⟩, A480, H⟩ := Option.bind_eq_some_iff.mp H
  (try dsimp -simprocs only at H)
  have A48 := Aside0.mk A480
  clear A480
  obtain ⟨t827, A490, H⟩ := Option.bind_eq_some_iff.mp H
  (try dsimp -simprocs only at H)
  have A49 := Aside0.mk A490
  clear A490
  have H' := Aside0.mk H
  clear H
  try go_wp2
  have n0_ : Aside0 (Kd.R (Kd.int .i64) 3 ((((w26.setCell ⟨gb758, 0, none⟩ (.bool t746)).setCell ⟨gb758, 1, none⟩ (.slice Ao24 t755.length co24)).setCell ⟨gb758, 2, none⟩ (.int .i64 t754)).setCell ⟨gb758, 0, none⟩ (.bool (!t746))) w.heap.size (fun k_ => some k_ ≠ (.slice Ao24 t755.length co24 : Value).ownBlock) (.slice Ao21 t750.length co21) t750) := ⟨by (with_reducible repeat (first | apply Kd.R_alloc | apply Kd.R_drewN | apply Kd.R_drew)); exact Kd.R_mono (Kd.R_far (p := ⟨gb758, 0, none⟩) (Kd.R_far (p := ⟨gb758, 2, none⟩) (Kd.R_far (p := ⟨gb758, 1, none⟩) (Kd.R_far (p := ⟨gb758, 0, none⟩) (Kd.R_types HO752.out BK758.out (by decide)) (fun _ hk => hk.2) (.bool t746)) (fun _ hk => hk.2) (.slice Ao24 t755.length co24)) (fun _ hk => hk.2) (.int .i64 t754)) (fun _ hk => hk.2) (.bool (!t746))) (fun _ hk => hk.1.2)⟩
  have n1_ : Aside0 (Kd.R (Kd.int .i64) 3 ((((w26.setCell ⟨gb758, 0, none⟩ (.bool t746)).setCell ⟨gb758, 1, none⟩ (.slice Ao24 t755.length co24)).setCell ⟨gb758, 2, none⟩ (.int .i64 t754)).setCell ⟨gb758, 0, none⟩ (.bool (!t746))) w.heap.size (fun k_ => some k_ ≠ (.slice Ao21 t750.length co21 : Value).ownBlock) (.slice Ao24 t755.length co24) t755) := ⟨by (with_reducible repeat (first | apply Kd.R_alloc | apply Kd.R_drewN | apply Kd.R_drew)); exact Kd.R_mono (Kd.R_far (p := ⟨gb758, 0, none⟩) (Kd.R_far (p := ⟨gb758, 2, none⟩) (Kd.R_far (p := ⟨gb758, 1, none⟩) (Kd.R_far (p := ⟨gb758, 0, none⟩) (Kd.R_types HO757.out BK758.out (by decide)) (fun _ hk => hk.2) (.bool t746)) (fun _ hk => hk.2) (.slice Ao24 t755.length co24)) (fun _ hk => hk.2) (.int .i64 t754)) (fun _ hk => hk.2) (.bool (!t746))) (fun _ hk => hk.1.2)⟩
  have n2_ : Aside0 (((((w26.setCell ⟨gb758, 0, none⟩ (.bool t746)).setCell ⟨gb758, 1, none⟩ (.slice Ao24 t755.length co24)).setCell ⟨gb758, 2, none⟩ (.int .i64 t754)).setCell ⟨gb758, 0, none⟩ (.bool (!t746))).heap[gb745]? = some (.cells #[.bool t744, .slice Ao21 t750.length co21, .int .i64 t749] 41 (0, 0))) := ⟨by (with_reducible repeat (first | refine blk_drewN ?_ _ | refine blk_drew ?_ | refine blk_alloc ?_ _)); refine blk_far ?_ NB745_758.out _; (with_reducible repeat (first | refine blk_drewN ?_ _ | refine blk_drew ?_ | refine blk_alloc ?_ _)); refine blk_far ?_ NB745_758.out _; (with_reducible repeat (first | refine blk_drewN ?_ _ | refine blk_drew ?_ | refine blk_alloc ?_ _)); refine blk_far ?_ NB745_758.out _; (with_reducible repeat (first | refine blk_drewN ?_ _ | refine blk_drew ?_ | refine blk_alloc ?_ _)); refine blk_far ?_ NB745_758.out _; (with_reducible repeat (first | refine blk_drewN ?_ _ | refine blk_drew ?_ | refine blk_alloc ?_ _)); exact BK745.out⟩
  have n3_ : Aside0 (((((w26.setCell ⟨gb758, 0, none⟩ (.bool t746)).setCell ⟨gb758, 1, none⟩ (.slice Ao24 t755.length co24)).setCell ⟨gb758, 2, none⟩ (.int .i64 t754)).setCell ⟨gb758, 0, none⟩ (.bool (!t746))).heap[gb747]? = some (.cells #[.bool t746, .slice Ao24 t755.length co24, .int .i64 t754] 41 (0, 0))) := ⟨by (with_reducible repeat (first | refine blk_drewN ?_ _ | refine blk_drew ?_ | refine blk_alloc ?_ _)); refine blk_far ?_ NB747_758.out _; (with_reducible repeat (first | refine blk_drewN ?_ _ | refine blk_drew ?_ | refine blk_alloc ?_ _)); refine blk_far ?_ NB747_758.out _; (with_reducible repeat (first | refine blk_drewN ?_ _ | refine blk_drew ?_ | refine blk_alloc ?_ _)); refine blk_far ?_ NB747_758.out _; (with_reducible repeat (first | refine blk_drewN ?_ _ | refine blk_drew ?_ | refine blk_alloc ?_ _)); refine blk_far ?_ NB747_758.out _; (with_reducible repeat (first | refine blk_drewN ?_ _ | refine blk_drew ?_ | refine blk_alloc ?_ _)); exact BK747.out⟩
  have n4_ : Aside0 (((((w26.setCell ⟨gb758, 0, none⟩ (.bool t746)).setCell ⟨gb758, 1, none⟩ (.slice Ao24 t755.length co24)).setCell ⟨gb758, 2, none⟩ (.int .i64 t754)).setCell ⟨gb758, 0, none⟩ (.bool (!t746))).heap[gb758]? = some (.cells #[.bool (!t746), .slice Ao24 t755.length co24, .int .i64 t754] 41 (0, 0))) := ⟨by (with_reducible repeat (first | refine blk_drewN ?_ _ | refine blk_drew ?_ | refine blk_alloc ?_ _)); refine blk_put (cs := #[.bool t746, .slice Ao24 t755.length co24, .int .i64 t754]) ?_ 0 _ rfl; (with_reducible repeat (first | refine blk_drewN ?_ _ | refine blk_drew ?_ | refine blk_alloc ?_ _)); refine blk_put (cs := #[.bool t746, .slice Ao24 t755.length co24, .int .i64 0]) ?_ 2 _ rfl; (with_reducible repeat (first | refine blk_drewN ?_ _ | refine blk_drew ?_ | refine blk_alloc ?_ _)); refine blk_put (cs := #[.bool t746, .slice none 0 0, .int .i64 0]) ?_ 1 _ rfl; (with_reducible repeat (first | refine blk_drewN ?_ _ | refine blk_drew ?_ | refine blk_alloc ?_ _)); refine blk_put (cs := #[.bool false, .slice none 0 0, .int .i64 0]) ?_ 0 _ rfl; (with_reducible repeat (first | refine blk_drewN ?_ _ | refine blk_drew ?_ | refine blk_alloc ?_ _)); exact BK758.out⟩
  have n5_ : Aside0 (Below w.heap.size w ((((w26.setCell ⟨gb758, 0, none⟩ (.bool t746)).setCell ⟨gb758, 1, none⟩ (.slice Ao24 t755.length co24)).setCell ⟨gb758, 2, none⟩ (.int .i64 t754)).setCell ⟨gb758, 0, none⟩ (.bool (!t746)))) := ⟨bes⟩
  (try clear HO752)
  (try clear HO757)
  (try clear BK745)
  (try clear BK747)
  (try clear BK758)
  (try clear HB)
  generalize ((((w26.setCell ⟨gb758, 0, none⟩ (.bool t746)).setCell ⟨gb758, 1, none⟩ (.slice Ao24 t755.length co24)).setCell ⟨gb758, 2, none⟩ (.int .i64 t754)).setCell ⟨gb758, 0, none⟩ (.bool (!t746))) = w50 at n0_ n1_ n2_ n3_ n4_ n5_ ⊢
  have HO752 := n0_
  have HO757 := n1_
  have BK745 := n2_
  have BK747 := n3_
  have BK758 := n4_
  have HB := n5_
  clear n0_ n1_ n2_ n3_ n4_ n5_
  refine ax6 (Kd.R_drew HO752.out) (Kd.R_drew HO757.out) (blk_drew BK745.out) (blk_drew BK747.out) (blk_drew BK758.out) (below_drew1 HB.out) ?_
  clear HO752 HO757 BK745 BK747 BK758 HB
  intro HO752 HO757 BK745 BK747 BK758 HB
  refine start_ (n := 38) (S := fun w' => w'.cell? ⟨gb745, 0, none⟩ = some (.bool t744) ∧ w'.cell? ⟨gb745, 1, none⟩ = some (.slice Ao21 t750.length co21) ∧ w'.cell? ⟨gb745, 2, none⟩ = some (.int .i64 t749) ∧ w'.cell? ⟨gb747, 0, none⟩ = some (.bool t746) ∧ w'.cell? ⟨gb747, 1, none⟩ = some (.slice Ao24 t755.length co24) ∧ w'.cell? ⟨gb747, 2, none⟩ = some (.int .i64 t754) ∧ w'.cell? ⟨gb758, 0, none⟩ = some (.bool (!t746)) ∧ w'.cell? ⟨gb758, 1, none⟩ = some (.slice Ao24 t755.length co24) ∧ w'.cell? ⟨gb758, 2, none⟩ = some (.int .i64 t754)) (ds := []) #[false, false, false, false, false, false, false, false, false, false, false, false, false, false, false, false, false, false, false, false, false, false, false, false, false, false, false, false, false, false, false, false, false, false, false, false, false, false] (by kernel_rfl) rfl rfl ⟨(blk_cell BK745.out 0).trans rfl, (blk_cell BK745.out 1).trans rfl, (blk_cell BK745.out 2).trans rfl, (blk_cell BK747.out 0).trans rfl, (blk_cell BK747.out 1).trans rfl, (blk_cell BK747.out 2).trans rfl, (blk_cell BK758.out 0).trans rfl, (blk_cell BK758.out 1).trans rfl, (blk_cell BK758.out 2).trans rfl⟩ (fun hHeld => ?_); refine with_tabW gimballaw07_DyadSums.tab15 gimballaw07_DyadSums.bits15 (fun HT_ HW_ => ?_)
  generalize w50.drew = w51 at HO752 HO757 BK745 BK747 BK758 HB hHeld ⊢
  refine pure_ (i := 0) (N := some 49) (v := ?_) (a' := ?_) #[true, false, false, false, false, false, false, false, false, false, false, false, false, false, false, false, false, false, false, false, false, false, false, false, false, false, false, false, false, false, false, false, false, false, false, false, false, false] rfl rfl (any_of HT_.out (by kernel_rfl)) (fun _ _ _ h => h) (Or.inl ⟨by rfl, ?_⟩) ?_ ?_
  rotate_left
  ·
   intro w'
   go_simp
   with_reducible rfl
  rotate_left
  ·
   simp only [Act.put, sa0, sa1, sa2, i64_w, i32_w]
   rfl
  refine take_ (i := 2) (N := some 51) (v := ?_) (a' := ?_) #[true, false, true, false, false, false, false, false, false, false, false, false, false, false, false, false, false, false, false, false, false, false, false, false, false, false, false, false, false, false, false, false, false, false, false, false, false, false] rfl rfl (take_ofW HT_.out HW_.out (by kernel_rfl)) (fun _ _ _ h => h) (Or.inl ⟨by rfl, ?_⟩) hHeld ?_ ?_
  rotate_left
  ·
   rintro w' ⟨s0, s1, s2, s3, s4, s5, s6, s7, s8⟩
   go_simp
   with_reducible rfl
  rotate_left
  ·
   simp only [Act.put, sa0, sa1, sa2, i64_w, i32_w]
   rfl
  refine one_ (i := 1) (N := some 50) #[true, true, true, false, false, false, false, false, false, false, false, false, false, false, false, false, false, false, false, false, false, false, false, false, false, false, false, false, false, false, false, false, false, false, false, false, false, false] rfl rfl (one_of HT_.out (by kernel_rfl)) (by decide) (fun K hK => ?_)
  refine goes_ Tryd.func21 (by kernel_rfl) rfl #[.int .u64 t742] (by rfl) rfl rfl ga ?_
  with_reducible refine (gimballaw07_of.calls k t742 t759 t760 t763 _ ?side1 A30.out).mono ?_
  (case side1 => first | exact hT | exact TabW.drewN hT _ | exact TabW.drew hT | exact TabW.below hT bes)
  rintro e w52 ⟨v761, rfl, ho0, hb⟩
  refine ⟨_, rfl, ?_⟩
  refine ax7 (Kd.R_below (kr HO752) hb) (Kd.R_below (kr HO757) hb) (Kd.V_lower (Kd.V_mono (ok' := fun k_ => some k_ ≠ (.slice Ao21 t750.length co21 : Value).ownBlock ∧ some k_ ≠ (.slice Ao24 t755.length co24 : Value).ownBlock ∧ k_ ≠ gb745 ∧ k_ ≠ gb747 ∧ k_ ≠ gb758) ho0 (fun k_ hk_ => ⟨(Kd.fresh' (Kd.R_lt (kr HO752)) k_ hk_), (Kd.fresh' (Kd.R_lt (kr HO757)) k_ hk_), (fb BK745 k_ hk_), (fb BK747 k_ hk_), (fb BK758 k_ hk_)⟩)) (below_size bes)) (bb BK745 hb) (bb BK747 hb) (bb BK758 hb) (below_step bes hb) ?_
  clear HO752 HO757 BK745 BK747 BK758 HB
  intro HO752 HO757 HO762 BK745 BK747 BK758 HB
  (try clear hb)
  (try clear hb2)
  (try clear hk)
  (try clear hi)
  (try clear ho0)
  obtain ⟨Ao53, co53, eo53⟩ := Kd.V_slice HO762.out
  (first | subst eo53 | (injection eo53 with f1_ f2_ f3_; have f4_ := f1_.symm; have f5_ := f3_.symm; clear f1_ f2_ f3_; subst f4_; subst f5_))
  refine hK.out _ _ ⟨(blk_cell BK745.out 0).trans rfl, (blk_cell BK745.out 1).trans rfl, (blk_cell BK745.out 2).trans rfl, (blk_cell BK747.out 0).trans rfl, (blk_cell BK747.out 1).trans rfl, (blk_cell BK747.out 2).trans rfl, (blk_cell BK758.out 0).trans rfl, (blk_cell BK758.out 1).trans rfl, (blk_cell BK758.out 2).trans rfl⟩ (fun hHeld => ?_)
  clear hK K
  refine norm_ (a' := ?_) ?_ ?_
  rotate_left
  ·
   show Act.put _ (some 50) _ = _
   simp only [Act.put, sa0, sa1, sa2, i64_w, i32_w]
   rfl
  refine one_ (i := 3) (N := some 52) #[true, true, true, true, false, false, false, false, false, false, false, false, false, false, false, false, false, false, false, false, false, false, false, false, false, false, false, false, false, false, false, false, false, false, false, false, false, false] rfl rfl (one_of HT_.out (by kernel_rfl)) (by decide) (fun K hK => ?_)
  refine goes_ Tryd.func20 (by kernel_rfl) rfl #[.agg #[.bool t759, .slice Ao53 t760.length co53, .int .i64 t763], .agg #[.bool t744, .slice Ao21 t750.length co21, .int .i64 t749]] (by rfl) rfl rfl ga ?_
  with_reducible refine (gimballaw07_is.calls k t759 _ _ t760 t763 t744 _ _ t750 t749 true _ ?side1 ?side2 ?side3 ?side4 ?side5 A31.out).mono ?_
  (case side1 => exact kvs HO762)
  (case side2 => exact (Kd.V_reads' HO762.out).2.1)
  (case side3 => exact ks HO752)
  (case side4 => exact (Kd.R_reads' HO752.out).2.1)
  (case side5 => first | exact hT | exact TabW.drewN hT _ | exact TabW.drew hT | exact TabW.below hT bes)
  rintro e w54 ⟨rfl, hb⟩
  refine ⟨_, rfl, ?_⟩
  refine ax7 (Kd.R_below (kr HO752) hb) (Kd.R_below (kr HO757) hb) (Kd.V_below (kv HO762) hb) (bb BK745 hb) (bb BK747 hb) (bb BK758 hb) (below_step bes hb) ?_
  clear HO752 HO757 HO762 BK745 BK747 BK758 HB
  intro HO752 HO757 HO762 BK745 BK747 BK758 HB
  (try clear hb)
  (try clear hb2)
  (try clear hk)
  (try clear hi)
  refine hK.out _ _ ⟨(blk_cell BK745.out 0).trans rfl, (blk_cell BK745.out 1).trans rfl, (blk_cell BK745.out 2).trans rfl, (blk_cell BK747.out 0).trans rfl, (blk_cell BK747.out 1).trans rfl, (blk_cell BK747.out 2).trans rfl, (blk_cell BK758.out 0).trans rfl, (blk_cell BK758.out 1).trans rfl, (blk_cell BK758.out 2).trans rfl⟩ (fun hHeld => ?_)
  clear hK K
  refine norm_ (a' := ?_) ?_ ?_
  rotate_left
  ·
   show Act.put _ (some 52) _ = _
   simp only [Act.put, sa0, sa1, sa2, i64_w, i32_w]
   rfl
  refine pure_ (i := 4) (N := some 53) (v := ?_) (a' := ?_) #[true, true, true, true, true, false, false, false, false, false, false, false, false, false, false, false, false, false, false, false, false, false, false, false, false, false, false, false, false, false, false, false, false, false, false, false, false, false] rfl rfl (any_of HT_.out (by kernel_rfl)) (fun _ _ _ h => h) (Or.inl ⟨by rfl, ?_⟩) ?_ ?_
  rotate_left
  ·
   intro w'
   go_simp
   with_reducible rfl
  rotate_left
  ·
   simp only [Act.put, sa0, sa1, sa2, i64_w, i32_w]
   rfl
  refine pure_ (i := 5) (N := some 54) (v := ?_) (a' := ?_) #[true, true, true, true, true, true, false, false, false, false, false, false, false, false, false, false, false, false, false, false, false, false, false, false, false, false, false, false, false, false, false, false, false, false, false, false, false, false] rfl rfl (any_of HT_.out (by kernel_rfl)) (fun _ _ _ h => h) (Or.inl ⟨by rfl, ?_⟩) ?_ ?_
  rotate_left
  ·
   intro w'
   go_simp
   with_reducible rfl
  rotate_left
  ·
   simp only [Act.put, sa0, sa1, sa2, i64_w, i32_w]
   rfl
  refine pure_ (i := 7) (N := some 56) (v := ?_) (a' := ?_) #[true, true, true, true, true, true, false, true, false, false, false, false, false, false, false, false, false, false, false, false, false, false, false, false, false, false, false, false, false, false, false, false, false, false, false, false, false, false] rfl rfl (any_of HT_.out (by kernel_rfl)) (fun _ _ _ h => h) (Or.inl ⟨by rfl, ?_⟩) ?_ ?_
  rotate_left
  ·
   intro w'
   go_simp
   with_reducible rfl
  rotate_left
  ·
   simp only [Act.put, sa0, sa1, sa2, i64_w, i32_w]
   rfl
  refine take_ (i := 10) (N := some 59) (v := ?_) (a' := ?_) #[true, true, true, true, true, true, false, true, false, false, true, false, false, false, false, false, false, false, false, false, false, false, false, false, false, false, false, false, false, false, false, false, false, false, false, false, false, false] rfl rfl (take_ofW HT_.out HW_.out (by kernel_rfl)) (fun _ _ _ h => h) (Or.inl ⟨by rfl, ?_⟩) hHeld ?_ ?_
  rotate_left
  ·
   rintro w' ⟨s0, s1, s2, s3, s4, s5, s6, s7, s8⟩
   go_simp
   with_reducible rfl
  rotate_left
  ·
   simp only [Act.put, sa0, sa1, sa2, i64_w, i32_w]
   rfl
  refine take_ (i := 11) (N := some 60) (v := ?_) (a' := ?_) #[true, true, true, true, true, true, false, true, false, false, true, true, false, false, false, false, false, false, false, false, false, false, false, false, false, false, false, false, false, false, false, false, false, false, false, false, false, false] rfl rfl (take_ofW HT_.out HW_.out (by kernel_rfl)) (fun _ _ _ h => h) (Or.inl ⟨by rfl, ?_⟩) hHeld ?_ ?_
  rotate_left
  ·
   rintro w' ⟨s0, s1, s2, s3, s4, s5, s6, s7, s8⟩
   go_simp
   with_reducible rfl
  rotate_left
  ·
   simp only [Act.put, sa0, sa1, sa2, i64_w, i32_w]
   rfl
  refine one_ (i := 6) (N := some 55) #[true, true, true, true, true, true, true, true, false, false, true, true, false, false, false, false, false, false, false, false, false, false, false, false, false, false, false, false, false, false, false, false, false, false, false, false, false, false] rfl rfl (one_of HT_.out (by kernel_rfl)) (by decide) (fun K hK => ?_)
  refine goes_ Tryd.func21 (by kernel_rfl) rfl #[.int .u64 t742] (by rfl) rfl rfl ga ?_
  with_reducible refine (gimballaw07_of.calls k t742 t765 t766 t769 _ ?side1 A33.out).mono ?_
  (case side1 => first | exact hT | exact TabW.drewN hT _ | exact TabW.drew hT | exact TabW.below hT bes)
  rintro e w55 ⟨v767, rfl, ho0, hb⟩
  refine ⟨_, rfl, ?_⟩
  refine ax8 (Kd.R_below (kr HO752) hb) (Kd.R_below (kr HO757) hb) (Kd.V_below (kv HO762) hb) (Kd.V_lower (Kd.V_mono (ok' := fun k_ => some k_ ≠ (.slice Ao21 t750.length co21 : Value).ownBlock ∧ some k_ ≠ (.slice Ao24 t755.length co24 : Value).ownBlock ∧ k_ ≠ gb745 ∧ k_ ≠ gb747 ∧ k_ ≠ gb758) ho0 (fun k_ hk_ => ⟨(Kd.fresh' (Kd.R_lt (kr HO752)) k_ hk_), (Kd.fresh' (Kd.R_lt (kr HO757)) k_ hk_), (fb BK745 k_ hk_), (fb BK747 k_ hk_), (fb BK758 k_ hk_)⟩)) (below_size bes)) (bb BK745 hb) (bb BK747 hb) (bb BK758 hb) (below_step bes hb) ?_
  clear HO752 HO757 HO762 BK745 BK747 BK758 HB
  intro HO752 HO757 HO762 HO768 BK745 BK747 BK758 HB
  (try clear hb)
  (try clear hb2)
  (try clear hk)
  (try clear hi)
  (try clear ho0)
  refine hK.out _ _ ⟨(blk_cell BK745.out 0).trans rfl, (blk_cell BK745.out 1).trans rfl, (blk_cell BK745.out 2).trans rfl, (blk_cell BK747.out 0).trans rfl, (blk_cell BK747.out 1).trans rfl, (blk_cell BK747.out 2).trans rfl, (blk_cell BK758.out 0).trans rfl, (blk_cell BK758.out 1).trans rfl, (blk_cell BK758.out 2).trans rfl⟩ (fun hHeld => ?_)
  clear hK K
  refine norm_ (a' := ?_) ?_ ?_
  rotate_left
  ·
   show Act.put _ (some 55) _ = _
   simp only [Act.put, sa0, sa1, sa2, i64_w, i32_w]
   rfl
  refine one_ (i := 8) (N := some 57) #[true, true, true, true, true, true, true, true, true, false, true, true, false, false, false, false, false, false, false, false, false, false, false, false, false, false, false, false, false, false, false, false, false, false, false, false, false, false] rfl rfl (one_of HT_.out (by kernel_rfl)) (by decide) (fun K hK => ?_)
  refine goes_ Tryd.func21 (by kernel_rfl) rfl #[.int .u64 t743] (by rfl) rfl rfl ga ?_
  with_reducible refine (gimballaw07_of.calls k t743 t770 t771 t774 _ ?side1 A34.out).mono ?_
  (case side1 => first | exact hT | exact TabW.drewN hT _ | exact TabW.drew hT | exact TabW.below hT bes)
  rintro e w56 ⟨v772, rfl, ho0, hb⟩
  refine ⟨_, rfl, ?_⟩
  refine ax9 (Kd.R_below (kr HO752) hb) (Kd.R_below (kr HO757) hb) (Kd.V_below (kv HO762) hb) (Kd.V_below (kv HO768) hb) (Kd.V_lower (Kd.V_mono (ok' := fun k_ => some k_ ≠ (.slice Ao21 t750.length co21 : Value).ownBlock ∧ some k_ ≠ (.slice Ao24 t755.length co24 : Value).ownBlock ∧ k_ ≠ gb745 ∧ k_ ≠ gb747 ∧ k_ ≠ gb758) ho0 (fun k_ hk_ => ⟨(Kd.fresh' (Kd.R_lt (kr HO752)) k_ hk_), (Kd.fresh' (Kd.R_lt (kr HO757)) k_ hk_), (fb BK745 k_ hk_), (fb BK747 k_ hk_), (fb BK758 k_ hk_)⟩)) (below_size bes)) (bb BK745 hb) (bb BK747 hb) (bb BK758 hb) (below_step bes hb) ?_
  clear HO752 HO757 HO762 HO768 BK745 BK747 BK758 HB
  intro HO752 HO757 HO762 HO768 HO773 BK745 BK747 BK758 HB
  (try clear hb)
  (try clear hb2)
  (try clear hk)
  (try clear hi)
  (try clear ho0)
  obtain ⟨Ao57, co57, eo57⟩ := Kd.V_slice HO768.out
  (first | subst eo57 | (injection eo57 with f1_ f2_ f3_; have f4_ := f1_.symm; have f5_ := f3_.symm; clear f1_ f2_ f3_; subst f4_; subst f5_))
  obtain ⟨Ao58, co58, eo58⟩ := Kd.V_slice HO773.out
  (first | subst eo58 | (injection eo58 with f1_ f2_ f3_; have f4_ := f1_.symm; have f5_ := f3_.symm; clear f1_ f2_ f3_; subst f4_; subst f5_))
  refine hK.out _ _ ⟨(blk_cell BK745.out 0).trans rfl, (blk_cell BK745.out 1).trans rfl, (blk_cell BK745.out 2).trans rfl, (blk_cell BK747.out 0).trans rfl, (blk_cell BK747.out 1).trans rfl, (blk_cell BK747.out 2).trans rfl, (blk_cell BK758.out 0).trans rfl, (blk_cell BK758.out 1).trans rfl, (blk_cell BK758.out 2).trans rfl⟩ (fun hHeld => ?_)
  clear hK K
  refine norm_ (a' := ?_) ?_ ?_
  rotate_left
  ·
   show Act.put _ (some 57) _ = _
   simp only [Act.put, sa0, sa1, sa2, i64_w, i32_w]
   rfl
  refine one_ (i := 9) (N := some 58) #[true, true, true, true, true, true, true, true, true, true, true, true, false, false, false, false, false, false, false, false, false, false, false, false, false, false, false, false, false, false, false, false, false, false, false, false, false, false] rfl rfl (one_of HT_.out (by kernel_rfl)) (by decide) (fun K hK => ?_)
  refine goes_ Tryd.func11 (by kernel_rfl) rfl #[.agg #[.bool t765, .slice Ao57 t766.length co57, .int .i64 t769], .agg #[.bool t770, .slice Ao58 t771.length co58, .int .i64 t774]] (by rfl) rfl rfl ga ?_
  with_reducible refine (dyad_Num_Add.calls k t765 (fun k_ => (some k_ ≠ (.slice Ao21 t750.length co21 : Value).ownBlock ∧ (some k_ ≠ (.slice Ao24 t755.length co24 : Value).ownBlock ∧ (k_ ≠ gb745 ∧ (k_ ≠ gb747 ∧ k_ ≠ gb758))))) _ _ t766 t769 t770 (fun k_ => (some k_ ≠ (.slice Ao21 t750.length co21 : Value).ownBlock ∧ (some k_ ≠ (.slice Ao24 t755.length co24 : Value).ownBlock ∧ (k_ ≠ gb745 ∧ (k_ ≠ gb747 ∧ k_ ≠ gb758))))) _ _ t771 t774 t775 t776 t779 _ ?side1 ?side2 ?side3 A35.out).mono ?_
  (case side1 => exact HO768.out)
  (case side2 => exact HO773.out)
  (case side3 => first | exact hT | exact TabW.drewN hT _ | exact TabW.drew hT | exact TabW.below hT bes)
  rintro e w59 ⟨v777, rfl, ho0, hb⟩
  refine ⟨_, rfl, ?_⟩
  refine ax10 (Kd.R_below (kr HO752) hb) (Kd.R_below (kr HO757) hb) (Kd.V_below (kv HO762) hb) (Kd.V_below (kv HO768) hb) (Kd.V_below (kv HO773) hb) (Kd.V_lower (Kd.V_mono (ok' := fun k_ => some k_ ≠ (.slice Ao21 t750.length co21 : Value).ownBlock ∧ some k_ ≠ (.slice Ao24 t755.length co24 : Value).ownBlock ∧ k_ ≠ gb745 ∧ k_ ≠ gb747 ∧ k_ ≠ gb758) ho0 (fun k_ hk_ => ⟨Or.elim hk_ (fun hs_ => Or.elim hs_ (fun hs_ => hs_.1) (fun hs_ => hs_.1)) (fun hn_ => (Kd.fresh' (Kd.R_lt (kr HO752)) k_ hn_)), Or.elim hk_ (fun hs_ => Or.elim hs_ (fun hs_ => hs_.2.1) (fun hs_ => hs_.2.1)) (fun hn_ => (Kd.fresh' (Kd.R_lt (kr HO757)) k_ hn_)), Or.elim hk_ (fun hs_ => Or.elim hs_ (fun hs_ => hs_.2.2.1) (fun hs_ => hs_.2.2.1)) (fun hn_ => (fb BK745 k_ hn_)), Or.elim hk_ (fun hs_ => Or.elim hs_ (fun hs_ => hs_.2.2.2.1) (fun hs_ => hs_.2.2.2.1)) (fun hn_ => (fb BK747 k_ hn_)), Or.elim hk_ (fun hs_ => Or.elim hs_ (fun hs_ => hs_.2.2.2.2) (fun hs_ => hs_.2.2.2.2)) (fun hn_ => (fb BK758 k_ hn_))⟩)) (below_size bes)) (bb BK745 hb) (bb BK747 hb) (bb BK758 hb) (below_step bes hb) ?_
  clear HO752 HO757 HO762 HO768 HO773 BK745 BK747 BK758 HB
  intro HO752 HO757 HO762 HO768 HO773 HO778 BK745 BK747 BK758 HB
  (try clear hb)
  (try clear hb2)
  (try clear hk)
  (try clear hi)
  (try clear ho0)
  refine hK.out _ _ ⟨(blk_cell BK745.out 0).trans rfl, (blk_cell BK745.out 1).trans rfl, (blk_cell BK745.out 2).trans rfl, (blk_cell BK747.out 0).trans rfl, (blk_cell BK747.out 1).trans rfl, (blk_cell BK747.out 2).trans rfl, (blk_cell BK758.out 0).trans rfl, (blk_cell BK758.out 1).trans rfl, (blk_cell BK758.out 2).trans rfl⟩ (fun hHeld => ?_)
  clear hK K
  refine norm_ (a' := ?_) ?_ ?_
  rotate_left
  ·
   show Act.put _ (some 58) _ = _
   simp only [Act.put, sa0, sa1, sa2, i64_w, i32_w]
   rfl
  refine one_ (i := 12) (N := some 61) #[true, true, true, true, true, true, true, true, true, true, true, true, true, false, false, false, false, false, false, false, false, false, false, false, false, false, false, false, false, false, false, false, false, false, false, false, false, false] rfl rfl (one_of HT_.out (by kernel_rfl)) (by decide) (fun K hK => ?_)
  refine goes_ Tryd.func22 (by kernel_rfl) rfl #[.agg #[.bool t744, .slice Ao21 t750.length co21, .int .i64 t749], .agg #[.bool t746, .slice Ao24 t755.length co24, .int .i64 t754]] (by rfl) rfl rfl ga ?_
  with_reducible refine (gimballaw07_add.calls k t744 _ _ t750 t749 t746 _ _ t755 t754 t780 t781 t784 _ ?side1 ?side2 ?side3 ?side4 A36.out).mono ?_
  (case side1 => exact ks HO752)
  (case side2 => exact (Kd.R_reads' HO752.out).2.1)
  (case side3 => exact ks HO757)
  (case side4 => exact (Kd.R_reads' HO757.out).2.1)
  rintro e w60 ⟨v782, rfl, ho0, hb⟩
  refine ⟨_, rfl, ?_⟩
  refine ax11 (Kd.R_elder' (kr HO752) (Kd.R_base ho0) hb) (Kd.R_elder' (kr HO757) (Kd.R_base ho0) hb) (Kd.V_elder' (kv HO762) (Kd.R_base ho0) hb) (Kd.V_elder' (kv HO768) (Kd.R_base ho0) hb) (Kd.V_elder' (kv HO773) (Kd.R_base ho0) hb) (Kd.V_elder' (kv HO778) (Kd.R_base ho0) hb) (Kd.R_lower (Kd.R_new' (Kd.R_new' ho0 (Kd.R_lt (kr HO752))) (Kd.R_lt (kr HO757))) (below_size bes)) (bb BK745 hb) (bb BK747 hb) (bb BK758 hb) (below_step bes hb) ?_
  clear HO752 HO757 HO762 HO768 HO773 HO778 BK745 BK747 BK758 HB
  intro HO752 HO757 HO762 HO768 HO773 HO778 HO783 BK745 BK747 BK758 HB
  (try clear hb)
  (try clear hb2)
  (try clear hk)
  (try clear hi)
  (try clear ho0)
  obtain ⟨Ao61, co61, eo61⟩ := Kd.V_slice HO778.out
  (first | subst eo61 | (injection eo61 with f1_ f2_ f3_; have f4_ := f1_.symm; have f5_ := f3_.symm; clear f1_ f2_ f3_; subst f4_; subst f5_))
  obtain ⟨Ao62, co62, eo62⟩ := Kd.R_slice HO783.out
  (first | subst eo62 | (injection eo62 with f1_ f2_ f3_; have f4_ := f1_.symm; have f5_ := f3_.symm; clear f1_ f2_ f3_; subst f4_; subst f5_))
  refine hK.out _ _ ⟨(blk_cell BK745.out 0).trans rfl, (blk_cell BK745.out 1).trans rfl, (blk_cell BK745.out 2).trans rfl, (blk_cell BK747.out 0).trans rfl, (blk_cell BK747.out 1).trans rfl, (blk_cell BK747.out 2).trans rfl, (blk_cell BK758.out 0).trans rfl, (blk_cell BK758.out 1).trans rfl, (blk_cell BK758.out 2).trans rfl⟩ (fun hHeld => ?_)
  clear hK K
  refine norm_ (a' := ?_) ?_ ?_
  rotate_left
  ·
   show Act.put _ (some 61) _ = _
   simp only [Act.put, sa0, sa1, sa2, i64_w, i32_w]
   rfl
  refine one_ (i := 13) (N := some 62) #[true, true, true, true, true, true, true, true, true, true, true, true, true, true, false, false, false, false, false, false, false, false, false, false, false, false, false, false, false, false, false, false, false, false, false, false, false, false] rfl rfl (one_of HT_.out (by kernel_rfl)) (by decide) (fun K hK => ?_)
  refine goes_ Tryd.func20 (by kernel_rfl) rfl #[.agg #[.bool t775, .slice Ao61 t776.length co61, .int .i64 t779], .agg #[.bool t780, .slice Ao62 t781.length co62, .int .i64 t784]] (by rfl) rfl rfl ga ?_
  with_reducible refine (gimballaw07_is.calls k t775 _ _ t776 t779 t780 _ _ t781 t784 true _ ?side1 ?side2 ?side3 ?side4 ?side5 A37.out).mono ?_
  (case side1 => exact kvs HO778)
  (case side2 => exact (Kd.V_reads' HO778.out).2.1)
  (case side3 => exact ks HO783)
  (case side4 => exact (Kd.R_reads' HO783.out).2.1)
  (case side5 => first | exact hT | exact TabW.drewN hT _ | exact TabW.drew hT | exact TabW.below hT bes)
  rintro e w63 ⟨rfl, hb⟩
  refine ⟨_, rfl, ?_⟩
  refine ax11 (Kd.R_below (kr HO752) hb) (Kd.R_below (kr HO757) hb) (Kd.V_below (kv HO762) hb) (Kd.V_below (kv HO768) hb) (Kd.V_below (kv HO773) hb) (Kd.V_below (kv HO778) hb) (Kd.R_below (kr HO783) hb) (bb BK745 hb) (bb BK747 hb) (bb BK758 hb) (below_step bes hb) ?_
  clear HO752 HO757 HO762 HO768 HO773 HO778 HO783 BK745 BK747 BK758 HB
  intro HO752 HO757 HO762 HO768 HO773 HO778 HO783 BK745 BK747 BK758 HB
  (try clear hb)
  (try clear hb2)
  (try clear hk)
  (try clear hi)
  refine hK.out _ _ ⟨(blk_cell BK745.out 0).trans rfl, (blk_cell BK745.out 1).trans rfl, (blk_cell BK745.out 2).trans rfl, (blk_cell BK747.out 0).trans rfl, (blk_cell BK747.out 1).trans rfl, (blk_cell BK747.out 2).trans rfl, (blk_cell BK758.out 0).trans rfl, (blk_cell BK758.out 1).trans rfl, (blk_cell BK758.out 2).trans rfl⟩ (fun hHeld => ?_)
  clear hK K
  refine norm_ (a' := ?_) ?_ ?_
  rotate_left
  ·
   show Act.put _ (some 62) _ = _
   simp only [Act.put, sa0, sa1, sa2, i64_w, i32_w]
   rfl
  refine pure_ (i := 14) (N := some 63) (v := ?_) (a' := ?_) #[true, true, true, true, true, true, true, true, true, true, true, true, true, true, true, false, false, false, false, false, false, false, false, false, false, false, false, false, false, false, false, false, false, false, false, false, false, false] rfl rfl (any_of HT_.out (by kernel_rfl)) (fun _ _ _ h => h) (Or.inl ⟨by rfl, ?_⟩) ?_ ?_
  rotate_left
  ·
   intro w'
   go_simp
   with_reducible rfl
  rotate_left
  ·
   simp only [Act.put, sa0, sa1, sa2, i64_w, i32_w]
   rfl
  refine pure_ (i := 15) (N := some 64) (v := ?_) (a' := ?_) #[true, true, true, true, true, true, true, true, true, true, true, true, true, true, true, true, false, false, false, false, false, false, false, false, false, false, false, false, false, false, false, false, false, false, false, false, false, false] rfl rfl (any_of HT_.out (by kernel_rfl)) (fun _ _ _ h => h) (Or.inl ⟨by rfl, ?_⟩) ?_ ?_
  rotate_left
  ·
   intro w'
   go_simp
   with_reducible rfl
  rotate_left
  ·
   simp only [Act.put, sa0, sa1, sa2, i64_w, i32_w]
   rfl
  refine pure_ (i := 16) (N := some 65) (v := ?_) (a' := ?_) #[true, true, true, true, true, true, true, true, true, true, true, true, true, true, true, true, true, false, false, false, false, false, false, false, false, false, false, false, false, false, false, false, false, false, false, false, false, false] rfl rfl (any_of HT_.out (by kernel_rfl)) (fun _ _ _ h => h) (Or.inl ⟨by rfl, ?_⟩) ?_ ?_
  rotate_left
  ·
   intro w'
   go_simp
   with_reducible rfl
  rotate_left
  ·
   simp only [Act.put, sa0, sa1, sa2, i64_w, i32_w]
   rfl
  refine pure_ (i := 18) (N := some 67) (v := ?_) (a' := ?_) #[true, true, true, true, true, true, true, true, true, true, true, true, true, true, true, true, true, false, true, false, false, false, false, false, false, false, false, false, false, false, false, false, false, false, false, false, false, false] rfl rfl (any_of HT_.out (by kernel_rfl)) (fun _ _ _ h => h) (Or.inl ⟨by rfl, ?_⟩) ?_ ?_
  rotate_left
  ·
   intro w'
   go_simp
   with_reducible rfl
  rotate_left
  ·
   simp only [Act.put, sa0, sa1, sa2, i64_w, i32_w]
   rfl
  refine take_ (i := 21) (N := some 70) (v := ?_) (a' := ?_) #[true, true, true, true, true, true, true, true, true, true, true, true, true, true, true, true, true, false, true, false, false, true, false, false, false, false, false, false, false, false, false, false, false, false, false, false, false, false] rfl rfl (take_ofW HT_.out HW_.out (by kernel_rfl)) (fun _ _ _ h => h) (Or.inl ⟨by rfl, ?_⟩) hHeld ?_ ?_
  rotate_left
  ·
   rintro w' ⟨s0, s1, s2, s3, s4, s5, s6, s7, s8⟩
   go_simp
   with_reducible rfl
  rotate_left
  ·
   simp only [Act.put, sa0, sa1, sa2, i64_w, i32_w]
   rfl
  refine take_ (i := 22) (N := some 71) (v := ?_) (a' := ?_) #[true, true, true, true, true, true, true, true, true, true, true, true, true, true, true, true, true, false, true, false, false, true, true, false, false, false, false, false, false, false, false, false, false, false, false, false, false, false] rfl rfl (take_ofW HT_.out HW_.out (by kernel_rfl)) (fun _ _ _ h => h) (Or.inl ⟨by rfl, ?_⟩) hHeld ?_ ?_
  rotate_left
  ·
   rintro w' ⟨s0, s1, s2, s3, s4, s5, s6, s7, s8⟩
   go_simp
   with_reducible rfl
  rotate_left
  ·
   simp only [Act.put, sa0, sa1, sa2, i64_w, i32_w]
   rfl
  refine one_ (i := 17) (N := some 66) #[true, true, true, true, true, true, true, true, true, true, true, true, true, true, true, true, true, true, true, false, false, true, true, false, false, false, false, false, false, false, false, false, false, false, false, false, false, false] rfl rfl (one_of HT_.out (by kernel_rfl)) (by decide) (fun K hK => ?_)
  refine goes_ Tryd.func21 (by kernel_rfl) rfl #[.int .u64 t742] (by rfl) rfl rfl ga ?_
  with_reducible refine (gimballaw07_of.calls k t742 t786 t787 t790 _ ?side1 A39.out).mono ?_
  (case side1 => first | exact hT | exact TabW.drewN hT _ | exact TabW.drew hT | exact TabW.below hT bes)
  rintro e w64 ⟨v788, rfl, ho0, hb⟩
  refine ⟨_, rfl, ?_⟩
  refine ax12 (Kd.R_below (kr HO752) hb) (Kd.R_below (kr HO757) hb) (Kd.V_below (kv HO762) hb) (Kd.V_below (kv HO768) hb) (Kd.V_below (kv HO773) hb) (Kd.V_below (kv HO778) hb) (Kd.R_below (kr HO783) hb) (Kd.V_lower (Kd.V_mono (ok' := fun k_ => some k_ ≠ (.slice Ao21 t750.length co21 : Value).ownBlock ∧ some k_ ≠ (.slice Ao24 t755.length co24 : Value).ownBlock ∧ some k_ ≠ (.slice Ao62 t781.length co62 : Value).ownBlock ∧ k_ ≠ gb745 ∧ k_ ≠ gb747 ∧ k_ ≠ gb758) ho0 (fun k_ hk_ => ⟨(Kd.fresh' (Kd.R_lt (kr HO752)) k_ hk_), (Kd.fresh' (Kd.R_lt (kr HO757)) k_ hk_), (Kd.fresh' (Kd.R_lt (kr HO783)) k_ hk_), (fb BK745 k_ hk_), (fb BK747 k_ hk_), (fb BK758 k_ hk_)⟩)) (below_size bes)) (bb BK745 hb) (bb BK747 hb) (bb BK758 hb) (below_step bes hb) ?_
  clear HO752 HO757 HO762 HO768 HO773 HO778 HO783 BK745 BK747 BK758 HB
  intro HO752 HO757 HO762 HO768 HO773 HO778 HO783 HO789 BK745 BK747 BK758 HB
  (try clear hb)
  (try clear hb2)
  (try clear hk)
  (try clear hi)
  (try clear ho0)
  refine hK.out _ _ ⟨(blk_cell BK745.out 0).trans rfl, (blk_cell BK745.out 1).trans rfl, (blk_cell BK745.out 2).trans rfl, (blk_cell BK747.out 0).trans rfl, (blk_cell BK747.out 1).trans rfl, (blk_cell BK747.out 2).trans rfl, (blk_cell BK758.out 0).trans rfl, (blk_cell BK758.out 1).trans rfl, (blk_cell BK758.out 2).trans rfl⟩ (fun hHeld => ?_)
  clear hK K
  refine norm_ (a' := ?_) ?_ ?_
  rotate_left
  ·
   show Act.put _ (some 66) _ = _
   simp only [Act.put, sa0, sa1, sa2, i64_w, i32_w]
   rfl
  refine one_ (i := 19) (N := some 68) #[true, true, true, true, true, true, true, true, true, true, true, true, true, true, true, true, true, true, true, true, false, true, true, false, false, false, false, false, false, false, false, false, false, false, false, false, false, false] rfl rfl (one_of HT_.out (by kernel_rfl)) (by decide) (fun K hK => ?_)
  refine goes_ Tryd.func21 (by kernel_rfl) rfl #[.int .u64 t743] (by rfl) rfl rfl ga ?_
  with_reducible refine (gimballaw07_of.calls k t743 t791 t792 t795 _ ?side1 A40.out).mono ?_
  (case side1 => first | exact hT | exact TabW.drewN hT _ | exact TabW.drew hT | exact TabW.below hT bes)
  rintro e w65 ⟨v793, rfl, ho0, hb⟩
  refine ⟨_, rfl, ?_⟩
  refine ax13 (Kd.R_below (kr HO752) hb) (Kd.R_below (kr HO757) hb) (Kd.V_below (kv HO762) hb) (Kd.V_below (kv HO768) hb) (Kd.V_below (kv HO773) hb) (Kd.V_below (kv HO778) hb) (Kd.R_below (kr HO783) hb) (Kd.V_below (kv HO789) hb) (Kd.V_lower (Kd.V_mono (ok' := fun k_ => some k_ ≠ (.slice Ao21 t750.length co21 : Value).ownBlock ∧ some k_ ≠ (.slice Ao24 t755.length co24 : Value).ownBlock ∧ some k_ ≠ (.slice Ao62 t781.length co62 : Value).ownBlock ∧ k_ ≠ gb745 ∧ k_ ≠ gb747 ∧ k_ ≠ gb758) ho0 (fun k_ hk_ => ⟨(Kd.fresh' (Kd.R_lt (kr HO752)) k_ hk_), (Kd.fresh' (Kd.R_lt (kr HO757)) k_ hk_), (Kd.fresh' (Kd.R_lt (kr HO783)) k_ hk_), (fb BK745 k_ hk_), (fb BK747 k_ hk_), (fb BK758 k_ hk_)⟩)) (below_size bes)) (bb BK745 hb) (bb BK747 hb) (bb BK758 hb) (below_step bes hb) ?_
  clear HO752 HO757 HO762 HO768 HO773 HO778 HO783 HO789 BK745 BK747 BK758 HB
  intro HO752 HO757 HO762 HO768 HO773 HO778 HO783 HO789 HO794 BK745 BK747 BK758 HB
  (try clear hb)
  (try clear hb2)
  (try clear hk)
  (try clear hi)
  (try clear ho0)
  obtain ⟨Ao66, co66, eo66⟩ := Kd.V_slice HO789.out
  (first | subst eo66 | (injection eo66 with f1_ f2_ f3_; have f4_ := f1_.symm; have f5_ := f3_.symm; clear f1_ f2_ f3_; subst f4_; subst f5_))
  obtain ⟨Ao67, co67, eo67⟩ := Kd.V_slice HO794.out
  (first | subst eo67 | (injection eo67 with f1_ f2_ f3_; have f4_ := f1_.symm; have f5_ := f3_.symm; clear f1_ f2_ f3_; subst f4_; subst f5_))
  refine hK.out _ _ ⟨(blk_cell BK745.out 0).trans rfl, (blk_cell BK745.out 1).trans rfl, (blk_cell BK745.out 2).trans rfl, (blk_cell BK747.out 0).trans rfl, (blk_cell BK747.out 1).trans rfl, (blk_cell BK747.out 2).trans rfl, (blk_cell BK758.out 0).trans rfl, (blk_cell BK758.out 1).trans rfl, (blk_cell BK758.out 2).trans rfl⟩ (fun hHeld => ?_)
  clear hK K
  refine norm_ (a' := ?_) ?_ ?_
  rotate_left
  ·
   show Act.put _ (some 68) _ = _
   simp only [Act.put, sa0, sa1, sa2, i64_w, i32_w]
   rfl
  refine one_ (i := 20) (N := some 69) #[true, true, true, true, true, true, true, true, true, true, true, true, true, true, true, true, true, true, true, true, true, true, true, false, false, false, false, false, false, false, false, false, false, false, false, false, false, false] rfl rfl (one_of HT_.out (by kernel_rfl)) (by decide) (fun K hK => ?_)
  refine goes_ Tryd.func23 (by kernel_rfl) rfl #[.agg #[.bool t786, .slice Ao66 t787.length co66, .int .i64 t790], .agg #[.bool t791, .slice Ao67 t792.length co67, .int .i64 t795]] (by rfl) rfl rfl ga ?_
  with_reducible refine (dyad_Num_Sub.calls k t786 (fun k_ => (some k_ ≠ (.slice Ao21 t750.length co21 : Value).ownBlock ∧ (some k_ ≠ (.slice Ao24 t755.length co24 : Value).ownBlock ∧ (some k_ ≠ (.slice Ao62 t781.length co62 : Value).ownBlock ∧ (k_ ≠ gb745 ∧ (k_ ≠ gb747 ∧ k_ ≠ gb758)))))) _ _ t787 t790 t791 (fun k_ => (some k_ ≠ (.slice Ao21 t750.length co21 : Value).ownBlock ∧ (some k_ ≠ (.slice Ao24 t755.length co24 : Value).ownBlock ∧ (some k_ ≠ (.slice Ao62 t781.length co62 : Value).ownBlock ∧ (k_ ≠ gb745 ∧ (k_ ≠ gb747 ∧ k_ ≠ gb758)))))) _ _ t792 t795 t796 t797 t800 _ ?side1 ?side2 ?side3 A41.out).mono ?_
  (case side1 => exact HO789.out)
  (case side2 => exact HO794.out)
  (case side3 => first | exact hT | exact TabW.drewN hT _ | exact TabW.drew hT | exact TabW.below hT bes)
  rintro e w68 ⟨v798, rfl, ho0, hb⟩
  refine ⟨_, rfl, ?_⟩
  refine ax14 (Kd.R_below (kr HO752) hb) (Kd.R_below (kr HO757) hb) (Kd.V_below (kv HO762) hb) (Kd.V_below (kv HO768) hb) (Kd.V_below (kv HO773) hb) (Kd.V_below (kv HO778) hb) (Kd.R_below (kr HO783) hb) (Kd.V_below (kv HO789) hb) (Kd.V_below (kv HO794) hb) (Kd.V_lower (Kd.V_mono (ok' := fun k_ => some k_ ≠ (.slice Ao21 t750.length co21 : Value).ownBlock ∧ some k_ ≠ (.slice Ao24 t755.length co24 : Value).ownBlock ∧ some k_ ≠ (.slice Ao62 t781.length co62 : Value).ownBlock ∧ k_ ≠ gb745 ∧ k_ ≠ gb747 ∧ k_ ≠ gb758) ho0 (fun k_ hk_ => ⟨Or.elim hk_ (fun hs_ => Or.elim hs_ (fun hs_ => hs_.1) (fun hs_ => hs_.1)) (fun hn_ => (Kd.fresh' (Kd.R_lt (kr HO752)) k_ hn_)), Or.elim hk_ (fun hs_ => Or.elim hs_ (fun hs_ => hs_.2.1) (fun hs_ => hs_.2.1)) (fun hn_ => (Kd.fresh' (Kd.R_lt (kr HO757)) k_ hn_)), Or.elim hk_ (fun hs_ => Or.elim hs_ (fun hs_ => hs_.2.2.1) (fun hs_ => hs_.2.2.1)) (fun hn_ => (Kd.fresh' (Kd.R_lt (kr HO783)) k_ hn_)), Or.elim hk_ (fun hs_ => Or.elim hs_ (fun hs_ => hs_.2.2.2.1) (fun hs_ => hs_.2.2.2.1)) (fun hn_ => (fb BK745 k_ hn_)), Or.elim hk_ (fun hs_ => Or.elim hs_ (fun hs_ => hs_.2.2.2.2.1) (fun hs_ => hs_.2.2.2.2.1)) (fun hn_ => (fb BK747 k_ hn_)), Or.elim hk_ (fun hs_ => Or.elim hs_ (fun hs_ => hs_.2.2.2.2.2) (fun hs_ => hs_.2.2.2.2.2)) (fun hn_ => (fb BK758 k_ hn_))⟩)) (below_size bes)) (bb BK745 hb) (bb BK747 hb) (bb BK758 hb) (below_step bes hb) ?_
  clear HO752 HO757 HO762 HO768 HO773 HO778 HO783 HO789 HO794 BK745 BK747 BK758 HB
  intro HO752 HO757 HO762 HO768 HO773 HO778 HO783 HO789 HO794 HO799 BK745 BK747 BK758 HB
  (try clear hb)
  (try clear hb2)
  (try clear hk)
  (try clear hi)
  (try clear ho0)
  refine hK.out _ _ ⟨(blk_cell BK745.out 0).trans rfl, (blk_cell BK745.out 1).trans rfl, (blk_cell BK745.out 2).trans rfl, (blk_cell BK747.out 0).trans rfl, (blk_cell BK747.out 1).trans rfl, (blk_cell BK747.out 2).trans rfl, (blk_cell BK758.out 0).trans rfl, (blk_cell BK758.out 1).trans rfl, (blk_cell BK758.out 2).trans rfl⟩ (fun hHeld => ?_)
  clear hK K
  refine norm_ (a' := ?_) ?_ ?_
  rotate_left
  ·
   show Act.put _ (some 69) _ = _
   simp only [Act.put, sa0, sa1, sa2, i64_w, i32_w]
   rfl
  refine one_ (i := 23) (N := some 72) #[true, true, true, true, true, true, true, true, true, true, true, true, true, true, true, true, true, true, true, true, true, true, true, true, false, false, false, false, false, false, false, false, false, false, false, false, false, false] rfl rfl (one_of HT_.out (by kernel_rfl)) (by decide) (fun K hK => ?_)
  refine goes_ Tryd.func22 (by kernel_rfl) rfl #[.agg #[.bool t744, .slice Ao21 t750.length co21, .int .i64 t749], .agg #[.bool (!t746), .slice Ao24 t755.length co24, .int .i64 t754]] (by rfl) rfl rfl ga ?_
  with_reducible refine (gimballaw07_add.calls k t744 _ _ t750 t749 (!t746) _ _ t755 t754 t801 t802 t805 _ ?side1 ?side2 ?side3 ?side4 A42.out).mono ?_
  (case side1 => exact ks HO752)
  (case side2 => exact (Kd.R_reads' HO752.out).2.1)
  (case side3 => exact ks HO757)
  (case side4 => exact (Kd.R_reads' HO757.out).2.1)
  rintro e w69 ⟨v803, rfl, ho0, hb⟩
  refine ⟨_, rfl, ?_⟩
  refine ax15 (Kd.R_elder' (kr HO752) (Kd.R_base ho0) hb) (Kd.R_elder' (kr HO757) (Kd.R_base ho0) hb) (Kd.V_elder' (kv HO762) (Kd.R_base ho0) hb) (Kd.V_elder' (kv HO768) (Kd.R_base ho0) hb) (Kd.V_elder' (kv HO773) (Kd.R_base ho0) hb) (Kd.V_elder' (kv HO778) (Kd.R_base ho0) hb) (Kd.R_elder' (kr HO783) (Kd.R_base ho0) hb) (Kd.V_elder' (kv HO789) (Kd.R_base ho0) hb) (Kd.V_elder' (kv HO794) (Kd.R_base ho0) hb) (Kd.V_elder' (kv HO799) (Kd.R_base ho0) hb) (Kd.R_lower (Kd.R_new' (Kd.R_new' (Kd.R_new' ho0 (Kd.R_lt (kr HO752))) (Kd.R_lt (kr HO757))) (Kd.R_lt (kr HO783))) (below_size bes)) (bb BK745 hb) (bb BK747 hb) (bb BK758 hb) (below_step bes hb) ?_
  clear HO752 HO757 HO762 HO768 HO773 HO778 HO783 HO789 HO794 HO799 BK745 BK747 BK758 HB
  intro HO752 HO757 HO762 HO768 HO773 HO778 HO783 HO789 HO794 HO799 HO804 BK745 BK747 BK758 HB
  (try clear hb)
  (try clear hb2)
  (try clear hk)
  (try clear hi)
  (try clear ho0)
  obtain ⟨Ao70, co70, eo70⟩ := Kd.V_slice HO799.out
  (first | subst eo70 | (injection eo70 with f1_ f2_ f3_; have f4_ := f1_.symm; have f5_ := f3_.symm; clear f1_ f2_ f3_; subst f4_; subst f5_))
  obtain ⟨Ao71, co71, eo71⟩ := Kd.R_slice HO804.out
  (first | subst eo71 | (injection eo71 with f1_ f2_ f3_; have f4_ := f1_.symm; have f5_ := f3_.symm; clear f1_ f2_ f3_; subst f4_; subst f5_))
  refine hK.out _ _ ⟨(blk_cell BK745.out 0).trans rfl, (blk_cell BK745.out 1).trans rfl, (blk_cell BK745.out 2).trans rfl, (blk_cell BK747.out 0).trans rfl, (blk_cell BK747.out 1).trans rfl, (blk_cell BK747.out 2).trans rfl, (blk_cell BK758.out 0).trans rfl, (blk_cell BK758.out 1).trans rfl, (blk_cell BK758.out 2).trans rfl⟩ (fun hHeld => ?_)
  clear hK K
  refine norm_ (a' := ?_) ?_ ?_
  rotate_left
  ·
   show Act.put _ (some 72) _ = _
   simp only [Act.put, sa0, sa1, sa2, i64_w, i32_w]
   rfl
  refine one_ (i := 24) (N := some 73) #[true, true, true, true, true, true, true, true, true, true, true, true, true, true, true, true, true, true, true, true, true, true, true, true, true, false, false, false, false, false, false, false, false, false, false, false, false, false] rfl rfl (one_of HT_.out (by kernel_rfl)) (by decide) (fun K hK => ?_)
  refine goes_ Tryd.func20 (by kernel_rfl) rfl #[.agg #[.bool t796, .slice Ao70 t797.length co70, .int .i64 t800], .agg #[.bool t801, .slice Ao71 t802.length co71, .int .i64 t805]] (by rfl) rfl rfl ga ?_
  with_reducible refine (gimballaw07_is.calls k t796 _ _ t797 t800 t801 _ _ t802 t805 true _ ?side1 ?side2 ?side3 ?side4 ?side5 A43.out).mono ?_
  (case side1 => exact kvs HO799)
  (case side2 => exact (Kd.V_reads' HO799.out).2.1)
  (case side3 => exact ks HO804)
  (case side4 => exact (Kd.R_reads' HO804.out).2.1)
  (case side5 => first | exact hT | exact TabW.drewN hT _ | exact TabW.drew hT | exact TabW.below hT bes)
  rintro e w72 ⟨rfl, hb⟩
  refine ⟨_, rfl, ?_⟩
  refine ax15 (Kd.R_below (kr HO752) hb) (Kd.R_below (kr HO757) hb) (Kd.V_below (kv HO762) hb) (Kd.V_below (kv HO768) hb) (Kd.V_below (kv HO773) hb) (Kd.V_below (kv HO778) hb) (Kd.R_below (kr HO783) hb) (Kd.V_below (kv HO789) hb) (Kd.V_below (kv HO794) hb) (Kd.V_below (kv HO799) hb) (Kd.R_below (kr HO804) hb) (bb BK745 hb) (bb BK747 hb) (bb BK758 hb) (below_step bes hb) ?_
  clear HO752 HO757 HO762 HO768 HO773 HO778 HO783 HO789 HO794 HO799 HO804 BK745 BK747 BK758 HB
  intro HO752 HO757 HO762 HO768 HO773 HO778 HO783 HO789 HO794 HO799 HO804 BK745 BK747 BK758 HB
  (try clear hb)
  (try clear hb2)
  (try clear hk)
  (try clear hi)
  refine hK.out _ _ ⟨(blk_cell BK745.out 0).trans rfl, (blk_cell BK745.out 1).trans rfl, (blk_cell BK745.out 2).trans rfl, (blk_cell BK747.out 0).trans rfl, (blk_cell BK747.out 1).trans rfl, (blk_cell BK747.out 2).trans rfl, (blk_cell BK758.out 0).trans rfl, (blk_cell BK758.out 1).trans rfl, (blk_cell BK758.out 2).trans rfl⟩ (fun hHeld => ?_)
  clear hK K
  refine norm_ (a' := ?_) ?_ ?_
  rotate_left
  ·
   show Act.put _ (some 73) _ = _
   simp only [Act.put, sa0, sa1, sa2, i64_w, i32_w]
   rfl
  refine pure_ (i := 25) (N := some 74) (v := ?_) (a' := ?_) #[true, true, true, true, true, true, true, true, true, true, true, true, true, true, true, true, true, true, true, true, true, true, true, true, true, true, false, false, false, false, false, false, false, false, false, false, false, false] rfl rfl (any_of HT_.out (by kernel_rfl)) (fun _ _ _ h => h) (Or.inl ⟨by rfl, ?_⟩) ?_ ?_
  rotate_left
  ·
   intro w'
   go_simp
   with_reducible rfl
  rotate_left
  ·
   simp only [Act.put, sa0, sa1, sa2, i64_w, i32_w]
   rfl
  refine pure_ (i := 26) (N := some 75) (v := ?_) (a' := ?_) #[true, true, true, true, true, true, true, true, true, true, true, true, true, true, true, true, true, true, true, true, true, true, true, true, true, true, true, false, false, false, false, false, false, false, false, false, false, false] rfl rfl (any_of HT_.out (by kernel_rfl)) (fun _ _ _ h => h) (Or.inl ⟨by rfl, ?_⟩) ?_ ?_
  rotate_left
  ·
   intro w'
   go_simp
   with_reducible rfl
  rotate_left
  ·
   simp only [Act.put, sa0, sa1, sa2, i64_w, i32_w]
   rfl
  refine pure_ (i := 27) (N := some 76) (v := ?_) (a' := ?_) #[true, true, true, true, true, true, true, true, true, true, true, true, true, true, true, true, true, true, true, true, true, true, true, true, true, true, true, true, false, false, false, false, false, false, false, false, false, false] rfl rfl (any_of HT_.out (by kernel_rfl)) (fun _ _ _ h => h) (Or.inl ⟨by rfl, ?_⟩) ?_ ?_
  rotate_left
  ·
   intro w'
   go_simp
   with_reducible rfl
  rotate_left
  ·
   simp only [Act.put, sa0, sa1, sa2, i64_w, i32_w]
   rfl
  refine pure_ (i := 29) (N := some 78) (v := ?_) (a' := ?_) #[true, true, true, true, true, true, true, true, true, true, true, true, true, true, true, true, true, true, true, true, true, true, true, true, true, true, true, true, false, true, false, false, false, false, false, false, false, false] rfl rfl (any_of HT_.out (by kernel_rfl)) (fun _ _ _ h => h) (Or.inl ⟨by rfl, ?_⟩) ?_ ?_
  rotate_left
  ·
   intro w'
   go_simp
   with_reducible rfl
  rotate_left
  ·
   simp only [Act.put, sa0, sa1, sa2, i64_w, i32_w]
   rfl
  refine take_ (i := 32) (N := some 81) (v := ?_) (a' := ?_) #[true, true, true, true, true, true, true, true, true, true, true, true, true, true, true, true, true, true, true, true, true, true, true, true, true, true, true, true, false, true, false, false, true, false, false, false, false, false] rfl rfl (take_ofW HT_.out HW_.out (by kernel_rfl)) (fun _ _ _ h => h) (Or.inl ⟨by rfl, ?_⟩) hHeld ?_ ?_
  rotate_left
  ·
   rintro w' ⟨s0, s1, s2, s3, s4, s5, s6, s7, s8⟩
   go_simp
   with_reducible rfl
  rotate_left
  ·
   simp only [Act.put, sa0, sa1, sa2, i64_w, i32_w]
   rfl
  refine take_ (i := 33) (N := some 82) (v := ?_) (a' := ?_) #[true, true, true, true, true, true, true, true, true, true, true, true, true, true, true, true, true, true, true, true, true, true, true, true, true, true, true, true, false, true, false, false, true, true, false, false, false, false] rfl rfl (take_ofW HT_.out HW_.out (by kernel_rfl)) (fun _ _ _ h => h) (Or.inl ⟨by rfl, ?_⟩) hHeld ?_ ?_
  rotate_left
  ·
   rintro w' ⟨s0, s1, s2, s3, s4, s5, s6, s7, s8⟩
   go_simp
   with_reducible rfl
  rotate_left
  ·
   simp only [Act.put, sa0, sa1, sa2, i64_w, i32_w]
   rfl
  refine one_ (i := 28) (N := some 77) #[true, true, true, true, true, true, true, true, true, true, true, true, true, true, true, true, true, true, true, true, true, true, true, true, true, true, true, true, true, true, false, false, true, true, false, false, false, false] rfl rfl (one_of HT_.out (by kernel_rfl)) (by decide) (fun K hK => ?_)
  refine goes_ Tryd.func21 (by kernel_rfl) rfl #[.int .u64 t742] (by rfl) rfl rfl ga ?_
  with_reducible refine (gimballaw07_of.calls k t742 t807 t808 t811 _ ?side1 A45.out).mono ?_
  (case side1 => first | exact hT | exact TabW.drewN hT _ | exact TabW.drew hT | exact TabW.below hT bes)
  rintro e w73 ⟨v809, rfl, ho0, hb⟩
  refine ⟨_, rfl, ?_⟩
  refine ax16 (Kd.R_below (kr HO752) hb) (Kd.R_below (kr HO757) hb) (Kd.V_below (kv HO762) hb) (Kd.V_below (kv HO768) hb) (Kd.V_below (kv HO773) hb) (Kd.V_below (kv HO778) hb) (Kd.R_below (kr HO783) hb) (Kd.V_below (kv HO789) hb) (Kd.V_below (kv HO794) hb) (Kd.V_below (kv HO799) hb) (Kd.R_below (kr HO804) hb) (Kd.V_lower (Kd.V_mono (ok' := fun k_ => some k_ ≠ (.slice Ao21 t750.length co21 : Value).ownBlock ∧ some k_ ≠ (.slice Ao24 t755.length co24 : Value).ownBlock ∧ some k_ ≠ (.slice Ao62 t781.length co62 : Value).ownBlock ∧ some k_ ≠ (.slice Ao71 t802.length co71 : Value).ownBlock ∧ k_ ≠ gb745 ∧ k_ ≠ gb747 ∧ k_ ≠ gb758) ho0 (fun k_ hk_ => ⟨(Kd.fresh' (Kd.R_lt (kr HO752)) k_ hk_), (Kd.fresh' (Kd.R_lt (kr HO757)) k_ hk_), (Kd.fresh' (Kd.R_lt (kr HO783)) k_ hk_), (Kd.fresh' (Kd.R_lt (kr HO804)) k_ hk_), (fb BK745 k_ hk_), (fb BK747 k_ hk_), (fb BK758 k_ hk_)⟩)) (below_size bes)) (bb BK745 hb) (bb BK747 hb) (bb BK758 hb) (below_step bes hb) ?_
  clear HO752 HO757 HO762 HO768 HO773 HO778 HO783 HO789 HO794 HO799 HO804 BK745 BK747 BK758 HB
  intro HO752 HO757 HO762 HO768 HO773 HO778 HO783 HO789 HO794 HO799 HO804 HO810 BK745 BK747 BK758 HB
  (try clear hb)
  (try clear hb2)
  (try clear hk)
  (try clear hi)
  (try clear ho0)
  refine hK.out _ _ ⟨(blk_cell BK745.out 0).trans rfl, (blk_cell BK745.out 1).trans rfl, (blk_cell BK745.out 2).trans rfl, (blk_cell BK747.out 0).trans rfl, (blk_cell BK747.out 1).trans rfl, (blk_cell BK747.out 2).trans rfl, (blk_cell BK758.out 0).trans rfl, (blk_cell BK758.out 1).trans rfl, (blk_cell BK758.out 2).trans rfl⟩ (fun hHeld => ?_)
  clear hK K
  refine norm_ (a' := ?_) ?_ ?_
  rotate_left
  ·
   show Act.put _ (some 77) _ = _
   simp only [Act.put, sa0, sa1, sa2, i64_w, i32_w]
   rfl
  refine one_ (i := 30) (N := some 79) #[true, true, true, true, true, true, true, true, true, true, true, true, true, true, true, true, true, true, true, true, true, true, true, true, true, true, true, true, true, true, true, false, true, true, false, false, false, false] rfl rfl (one_of HT_.out (by kernel_rfl)) (by decide) (fun K hK => ?_)
  refine goes_ Tryd.func21 (by kernel_rfl) rfl #[.int .u64 t743] (by rfl) rfl rfl ga ?_
  with_reducible refine (gimballaw07_of.calls k t743 t812 t813 t816 _ ?side1 A46.out).mono ?_
  (case side1 => first | exact hT | exact TabW.drewN hT _ | exact TabW.drew hT | exact TabW.below hT bes)
  rintro e w74 ⟨v814, rfl, ho0, hb⟩
  refine ⟨_, rfl, ?_⟩
  refine ax17 (Kd.R_below (kr HO752) hb) (Kd.R_below (kr HO757) hb) (Kd.V_below (kv HO762) hb) (Kd.V_below (kv HO768) hb) (Kd.V_below (kv HO773) hb) (Kd.V_below (kv HO778) hb) (Kd.R_below (kr HO783) hb) (Kd.V_below (kv HO789) hb) (Kd.V_below (kv HO794) hb) (Kd.V_below (kv HO799) hb) (Kd.R_below (kr HO804) hb) (Kd.V_below (kv HO810) hb) (Kd.V_lower (Kd.V_mono (ok' := fun k_ => some k_ ≠ (.slice Ao21 t750.length co21 : Value).ownBlock ∧ some k_ ≠ (.slice Ao24 t755.length co24 : Value).ownBlock ∧ some k_ ≠ (.slice Ao62 t781.length co62 : Value).ownBlock ∧ some k_ ≠ (.slice Ao71 t802.length co71 : Value).ownBlock ∧ k_ ≠ gb745 ∧ k_ ≠ gb747 ∧ k_ ≠ gb758) ho0 (fun k_ hk_ => ⟨(Kd.fresh' (Kd.R_lt (kr HO752)) k_ hk_), (Kd.fresh' (Kd.R_lt (kr HO757)) k_ hk_), (Kd.fresh' (Kd.R_lt (kr HO783)) k_ hk_), (Kd.fresh' (Kd.R_lt (kr HO804)) k_ hk_), (fb BK745 k_ hk_), (fb BK747 k_ hk_), (fb BK758 k_ hk_)⟩)) (below_size bes)) (bb BK745 hb) (bb BK747 hb) (bb BK758 hb) (below_step bes hb) ?_
  clear HO752 HO757 HO762 HO768 HO773 HO778 HO783 HO789 HO794 HO799 HO804 HO810 BK745 BK747 BK758 HB
  intro HO752 HO757 HO762 HO768 HO773 HO778 HO783 HO789 HO794 HO799 HO804 HO810 HO815 BK745 BK747 BK758 HB
  (try clear hb)
  (try clear hb2)
  (try clear hk)
  (try clear hi)
  (try clear ho0)
  obtain ⟨Ao75, co75, eo75⟩ := Kd.V_slice HO810.out
  (first | subst eo75 | (injection eo75 with f1_ f2_ f3_; have f4_ := f1_.symm; have f5_ := f3_.symm; clear f1_ f2_ f3_; subst f4_; subst f5_))
  obtain ⟨Ao76, co76, eo76⟩ := Kd.V_slice HO815.out
  (first | subst eo76 | (injection eo76 with f1_ f2_ f3_; have f4_ := f1_.symm; have f5_ := f3_.symm; clear f1_ f2_ f3_; subst f4_; subst f5_))
  refine hK.out _ _ ⟨(blk_cell BK745.out 0).trans rfl, (blk_cell BK745.out 1).trans rfl, (blk_cell BK745.out 2).trans rfl, (blk_cell BK747.out 0).trans rfl, (blk_cell BK747.out 1).trans rfl, (blk_cell BK747.out 2).trans rfl, (blk_cell BK758.out 0).trans rfl, (blk_cell BK758.out 1).trans rfl, (blk_cell BK758.out 2).trans rfl⟩ (fun hHeld => ?_)
  clear hK K
  refine norm_ (a' := ?_) ?_ ?_
  rotate_left
  ·
   show Act.put _ (some 79) _ = _
   simp only [Act.put, sa0, sa1, sa2, i64_w, i32_w]
   rfl
  refine one_ (i := 31) (N := some 80) #[true, true, true, true, true, true, true, true, true, true, true, true, true, true, true, true, true, true, true, true, true, true, true, true, true, true, true, true, true, true, true, true, true, true, false, false, false, false] rfl rfl (one_of HT_.out (by kernel_rfl)) (by decide) (fun K hK => ?_)
  refine goes_ Tryd.func13 (by kernel_rfl) rfl #[.agg #[.bool t807, .slice Ao75 t808.length co75, .int .i64 t811], .agg #[.bool t812, .slice Ao76 t813.length co76, .int .i64 t816]] (by rfl) rfl rfl ga ?_
  with_reducible refine (dyad_Num_Mul.calls k t807 _ _ t808 t811 t812 _ _ t813 t816 t817 t818 t821 _ ?side1 ?side2 ?side3 ?side4 ?side5 A47.out).mono ?_
  (case side1 => exact kvs HO810)
  (case side2 => exact (Kd.V_reads' HO810.out).2.1)
  (case side3 => exact kvs HO815)
  (case side4 => exact (Kd.V_reads' HO815.out).2.1)
  (case side5 => first | exact hT | exact TabW.drewN hT _ | exact TabW.drew hT | exact TabW.below hT bes)
  rintro e w77 ⟨v819, rfl, ho0, hb⟩
  refine ⟨_, rfl, ?_⟩
  refine ax18 (Kd.R_below (kr HO752) hb) (Kd.R_below (kr HO757) hb) (Kd.V_below (kv HO762) hb) (Kd.V_below (kv HO768) hb) (Kd.V_below (kv HO773) hb) (Kd.V_below (kv HO778) hb) (Kd.R_below (kr HO783) hb) (Kd.V_below (kv HO789) hb) (Kd.V_below (kv HO794) hb) (Kd.V_below (kv HO799) hb) (Kd.R_below (kr HO804) hb) (Kd.V_below (kv HO810) hb) (Kd.V_below (kv HO815) hb) (Kd.V_lower (Kd.V_mono (ok' := fun k_ => some k_ ≠ (.slice Ao21 t750.length co21 : Value).ownBlock ∧ some k_ ≠ (.slice Ao24 t755.length co24 : Value).ownBlock ∧ some k_ ≠ (.slice Ao62 t781.length co62 : Value).ownBlock ∧ some k_ ≠ (.slice Ao71 t802.length co71 : Value).ownBlock ∧ k_ ≠ gb745 ∧ k_ ≠ gb747 ∧ k_ ≠ gb758) ho0 (fun k_ hk_ => ⟨(Kd.fresh' (Kd.R_lt (kr HO752)) k_ hk_), (Kd.fresh' (Kd.R_lt (kr HO757)) k_ hk_), (Kd.fresh' (Kd.R_lt (kr HO783)) k_ hk_), (Kd.fresh' (Kd.R_lt (kr HO804)) k_ hk_), (fb BK745 k_ hk_), (fb BK747 k_ hk_), (fb BK758 k_ hk_)⟩)) (below_size bes)) (bb BK745 hb) (bb BK747 hb) (bb BK758 hb) (below_step bes hb) ?_
  clear HO752 HO757 HO762 HO768 HO773 HO778 HO783 HO789 HO794 HO799 HO804 HO810 HO815 BK745 BK747 BK758 HB
  intro HO752 HO757 HO762 HO768 HO773 HO778 HO783 HO789 HO794 HO799 HO804 HO810 HO815 HO820 BK745 BK747 BK758 HB
  (try clear hb)
  (try clear hb2)
  (try clear hk)
  (try clear hi)
  (try clear ho0)
  refine hK.out _ _ ⟨(blk_cell BK745.out 0).trans rfl, (blk_cell BK745.out 1).trans rfl, (blk_cell BK745.out 2).trans rfl, (blk_cell BK747.out 0).trans rfl, (blk_cell BK747.out 1).trans rfl, (blk_cell BK747.out 2).trans rfl, (blk_cell BK758.out 0).trans rfl, (blk_cell BK758.out 1).trans rfl, (blk_cell BK758.out 2).trans rfl⟩ (fun hHeld => ?_)
  clear hK K
  refine norm_ (a' := ?_) ?_ ?_
  rotate_left
  ·
   show Act.put _ (some 80) _ = _
   simp only [Act.put, sa0, sa1, sa2, i64_w, i32_w]
   rfl
  refine one_ (i := 34) (N := some 83) #[true, true, true, true, true, true, true, true, true, true, true, true, true, true, true, true, true, true, true, true, true, true, true, true, true, true, true, true, true, true, true, true, true, true, true, false, false, false] rfl rfl (one_of HT_.out (by kernel_rfl)) (by decide) (fun K hK => ?_)
  refine goes_ Tryd.func24 (by kernel_rfl) rfl #[.agg #[.bool t744, .slice Ao21 t750.length co21, .int .i64 t749], .agg #[.bool t746, .slice Ao24 t755.length co24, .int .i64 t754]] (by rfl) rfl rfl ga ?_
  with_reducible refine (gimballaw07_mul.calls k t744 _ _ t750 t749 t746 _ _ t755 t754 t822 t823 t826 _ ?side1 ?side2 ?side3 ?side4 A48.out).mono ?_
  (case side1 => exact ks HO752)
  (case side2 => exact (Kd.R_reads' HO752.out).2.1)
  (case side3 => exact ks HO757)
  (case side4 => exact (Kd.R_reads' HO757.out).2.1)
  rintro e w78 ⟨v824, rfl, ho0, hb⟩
  refine ⟨_, rfl, ?_⟩
  refine ax19 (Kd.R_elder' (kr HO752) (Kd.R_base ho0) hb) (Kd.R_elder' (kr HO757) (Kd.R_base ho0) hb) (Kd.V_elder' (kv HO762) (Kd.R_base ho0) hb) (Kd.V_elder' (kv HO768) (Kd.R_base ho0) hb) (Kd.V_elder' (kv HO773) (Kd.R_base ho0) hb) (Kd.V_elder' (kv HO778) (Kd.R_base ho0) hb) (Kd.R_elder' (kr HO783) (Kd.R_base ho0) hb) (Kd.V_elder' (kv HO789) (Kd.R_base ho0) hb) (Kd.V_elder' (kv HO794) (Kd.R_base ho0) hb) (Kd.V_elder' (kv HO799) (Kd.R_base ho0) hb) (Kd.R_elder' (kr HO804) (Kd.R_base ho0) hb) (Kd.V_elder' (kv HO810) (Kd.R_base ho0) hb) (Kd.V_elder' (kv HO815) (Kd.R_base ho0) hb) (Kd.V_elder' (kv HO820) (Kd.R_base ho0) hb) (Kd.R_lower (Kd.R_new' (Kd.R_new' (Kd.R_new' (Kd.R_new' ho0 (Kd.R_lt (kr HO752))) (Kd.R_lt (kr HO757))) (Kd.R_lt (kr HO783))) (Kd.R_lt (kr HO804))) (below_size bes)) (bb BK745 hb) (bb BK747 hb) (bb BK758 hb) (below_step bes hb) ?_
  clear HO752 HO757 HO762 HO768 HO773 HO778 HO783 HO789 HO794 HO799 HO804 HO810 HO815 HO820 BK745 BK747 BK758 HB
  intro HO752 HO757 HO762 HO768 HO773 HO778 HO783 HO789 HO794 HO799 HO804 HO810 HO815 HO820 HO825 BK745 BK747 BK758 HB
  (try clear hb)
  (try clear hb2)
  (try clear hk)
  (try clear hi)
  (try clear ho0)
  obtain ⟨Ao79, co79, eo79⟩ := Kd.V_slice HO820.out
  (first | subst eo79 | (injection eo79 with f1_ f2_ f3_; have f4_ := f1_.symm; have f5_ := f3_.symm; clear f1_ f2_ f3_; subst f4_; subst f5_))
  obtain ⟨Ao80, co80, eo80⟩ := Kd.R_slice HO825.out
  (first | subst eo80 | (injection eo80 with f1_ f2_ f3_; have f4_ := f1_.symm; have f5_ := f3_.symm; clear f1_ f2_ f3_; subst f4_; subst f5_))
  refine hK.out _ _ ⟨(blk_cell BK745.out 0).trans rfl, (blk_cell BK745.out 1).trans rfl, (blk_cell BK745.out 2).trans rfl, (blk_cell BK747.out 0).trans rfl, (blk_cell BK747.out 1).trans rfl, (blk_cell BK747.out 2).trans rfl, (blk_cell BK758.out 0).trans rfl, (blk_cell BK758.out 1).trans rfl, (blk_cell BK758.out 2).trans rfl⟩ (fun hHeld => ?_)
  clear hK K
  refine norm_ (a' := ?_) ?_ ?_
  rotate_left
  ·
   show Act.put _ (some 83) _ = _
   simp only [Act.put, sa0, sa1, sa2, i64_w, i32_w]
   rfl
  refine one_ (i := 35) (N := some 84) #[true, true, true, true, true, true, true, true, true, true, true, true, true, true, true, true, true, true, true, true, true, true, true, true, true, true, true, true, true, true, true, true, true, true, true, true, false, false] rfl rfl (one_of HT_.out (by kernel_rfl)) (by decide) (fun K hK => ?_)
  refine goes_ Tryd.func20 (by kernel_rfl) rfl #[.agg #[.bool t817, .slice Ao79 t818.length co79, .int .i64 t821], .agg #[.bool t822, .slice Ao80 t823.length co80, .int .i64 t826]] (by rfl) rfl rfl ga ?_
  with_reducible refine (gimballaw07_is.calls k t817 _ _ t818 t821 t822 _ _ t823 t826 t827 _ ?side1 ?side2 ?side3 ?side4 ?side5 A49.out).mono ?_
  (case side1 => exact kvs HO820)
  (case side2 => exact (Kd.V_reads' HO820.out).2.1)
  (case side3 => exact ks HO825)
  (case side4 => exact (Kd.R_reads' HO825.out).2.1)
  (case side5 => first | exact hT | exact TabW.drewN hT _ | exact TabW.drew hT | exact TabW.below hT bes)
  rintro e w81 ⟨rfl, hb⟩
  refine ⟨_, rfl, ?_⟩
  refine ax19 (Kd.R_below (kr HO752) hb) (Kd.R_below (kr HO757) hb) (Kd.V_below (kv HO762) hb) (Kd.V_below (kv HO768) hb) (Kd.V_below (kv HO773) hb) (Kd.V_below (kv HO778) hb) (Kd.R_below (kr HO783) hb) (Kd.V_below (kv HO789) hb) (Kd.V_below (kv HO794) hb) (Kd.V_below (kv HO799) hb) (Kd.R_below (kr HO804) hb) (Kd.V_below (kv HO810) hb) (Kd.V_below (kv HO815) hb) (Kd.V_below (kv HO820) hb) (Kd.R_below (kr HO825) hb) (bb BK745 hb) (bb BK747 hb) (bb BK758 hb) (below_step bes hb) ?_
  clear HO752 HO757 HO762 HO768 HO773 HO778 HO783 HO789 HO794 HO799 HO804 HO810 HO815 HO820 HO825 BK745 BK747 BK758 HB
  intro HO752 HO757 HO762 HO768 HO773 HO778 HO783 HO789 HO794 HO799 HO804 HO810 HO815 HO820 HO825 BK745 BK747 BK758 HB
  (try clear hb)
  (try clear hb2)
  (try clear hk)
  (try clear hi)
  refine hK.out _ _ ⟨(blk_cell BK745.out 0).trans rfl, (blk_cell BK745.out 1).trans rfl, (blk_cell BK745.out 2).trans rfl, (blk_cell BK747.out 0).trans rfl, (blk_cell BK747.out 1).trans rfl, (blk_cell BK747.out 2).trans rfl, (blk_cell BK758.out 0).trans rfl, (blk_cell BK758.out 1).trans rfl, (blk_cell BK758.out 2).trans rfl⟩ (fun hHeld => ?_)
  clear hK K
  refine norm_ (a' := ?_) ?_ ?_
  rotate_left
  ·
   show Act.put _ (some 84) _ = _
   simp only [Act.put, sa0, sa1, sa2, i64_w, i32_w]
   rfl
  refine pure_ (i := 36) (N := some 85) (v := ?_) (a' := ?_) #[true, true, true, true, true, true, true, true, true, true, true, true, true, true, true, true, true, true, true, true, true, true, true, true, true, true, true, true, true, true, true, true, true, true, true, true, true, false] rfl rfl (any_of HT_.out (by kernel_rfl)) (fun _ _ _ h => h) (Or.inl ⟨by rfl, ?_⟩) ?_ ?_
  rotate_left
  ·
   intro w'
   go_simp
   with_reducible rfl
  rotate_left
  ·
   simp only [Act.put, sa0, sa1, sa2, i64_w, i32_w]
   rfl
  refine pure_ (i := 37) (N := some 4) (v := ?_) (a' := ?_) #[true, true, true, true, true, true, true, true, true, true, true, true, true, true, true, true, true, true, true, true, true, true, true, true, true, true, true, true, true, true, true, true, true, true, true, true, true, true] rfl rfl (any_of HT_.out (by kernel_rfl)) (fun _ _ _ h => h) (Or.inl ⟨by rfl, ?_⟩) ?_ ?_
  rotate_left
  ·
   intro w'
   go_simp
   with_reducible rfl
  rotate_left
  ·
   simp only [Act.put, sa0, sa1, sa2, i64_w, i32_w]
   rfl
  refine done_ (done_of HT_.out (by kernel_rfl)) ?_
  try go_wp2
  go_meet
  case rel => exact ⟨_, (t827), (by first | rfl | (simp; done) | (simp [*]; done)), H', ⟨by first | omega | exact Nat.le_refl _⟩, ⟨by (with_reducible repeat (first | apply Kd.R_alloc | apply Kd.R_drewN | apply Kd.R_drew)); exact Kd.R_mono HO752.out (fun _ hk => ⟨hk.1.1.1, hk.1.1.1⟩)⟩, ⟨by (with_reducible repeat (first | apply Kd.R_alloc | apply Kd.R_drewN | apply Kd.R_drew)); exact Kd.R_mono HO757.out (fun _ hk => hk.1.1.1)⟩, ⟨by (with_reducible repeat (first | apply Kd.R_alloc | apply Kd.R_drewN | apply Kd.R_drew)); exact Kd.R_mono HO757.out (fun _ hk => hk.1.1.1)⟩, ⟨kb BK745⟩, ⟨kb BK747⟩, ⟨kb BK758⟩, ⟨bes⟩⟩
 case rest =>
  clear HC13
  try clear c1
  try clear c2
  try clear p2
  try clear c3
  try clear c4
  try clear c13
  try clear c20
  try clear c21
  try clear c24
  try clear c32
  try clear c38
  try clear c44
  obtain ⟨kq, x4_12, rfl, HA, HJ12, HO_746001, HO_748001, HO_759001, BK745, BK747, BK758, HB⟩ := hcut
  cases kq with
  | zero => exact absurd HA.out (by simp [gimballaw07_DyadSums.j0])
  | succ kj12 =>
   have H := HA.out
   clear HA
   simp only [gimballaw07_DyadSums.j0] at H
   obtain rfl := Option.some.inj H
   go_wp2
   go_ret
   exact ⟨er, bes⟩
/-- THE ONE PURE STATEMENT of gimballaw07_DyadSums: yours. -/
def gimballaw07_DyadSums.Pure : Prop := ∀ (a0 : Int) (a1 : Int), (Lit.int .u64 a0).wf = true → (Lit.int .u64 a1).wf = true → ∃ k, gimballaw07_DyadSums.f k a0 a1 = some true
theorem gimballaw07_DyadSums.walk (P : gimballaw07_DyadSums.Pure) (a0 : Int) (a1 : Int) (w : World) (w0 : (Lit.int .u64 a0).wf = true) (w1 : (Lit.int .u64 a1).wf = true) (hT : TabW w) :
  Calls Tryd.prog 4 #[.int .u64 a0, .int .u64 a1] w fun e w' => e = .returned (.bool true) ∧ Below w.heap.size w w' := by
 obtain ⟨k, h⟩ := P a0 a1 w0 w1
 refine (gimballaw07_DyadSums.calls k a0 a1 true w hT rfl h).mono ?_
 rintro e w' ⟨rfl, hd⟩
 exact ⟨rfl, hd⟩

end Go.Proofs.YtakegikedpcilaaDoor.F
