-- Written by a program of this seat's session (mkprint), out of the translation.
import Derived.Test.YtnjobojkoaknpaaShort
import Derived.Test.YtnjobojkoaknpaaFx0
import Derived.Test.YtnjobojkoaknpaaFx2
import Derived.Test.YtnjobojkoaknpaaFx3
namespace Go.Proofs.Ytnjobojkoaknpaa.F
open Go.RowKit Go.Proofs.YtnjobojkoaknpaaW.PrintWords Go.Proofs.YtnjobojkoaknpaaW.PrintLast Go.Proofs.YtnjobojkoaknpaaW.PrintMore
attribute [local go_sem] max2_int min2_int max_two min_two max_three min_three max_four min_four   -- for this text's walks alone
set_option linter.unusedVariables false
set_option linter.unusedSimpArgs false

/-! ### round_Round: function 36 -/
mutual
def round_Round.j0 : Nat → Bool → Int → Bool → Int → Bool → Int → Int → Option (Int × Int)
 | 0, _, _, _, _, _, _, _ => none
 | k + 1, x0, x2, x3, x10, x11, x132000, x132001 => if x10 > 0 then ((wide_Wide_Right.f k x132000 x132001 x10).bind fun bt137 => ((round_split.f k x132000 x132001 x10 bt137.2.2).bind fun bt141 => (if bt141.1 = true then (round_Round.j1 k x0 x2 x3 x10 x11 true bt141.1 bt141.2 bt137.1 bt137.2.1) else (if bt141.2 = true then (round_Round.j1 k x0 x2 x3 x10 x11 true bt141.1 bt141.2 bt137.1 bt137.2.1) else (round_Round.j1 k x0 x2 x3 x10 x11 x3 bt141.1 bt141.2 bt137.1 bt137.2.1))))) else (if x10 < 0 then (round_Round.j3 k x0 x2 x10 x11 x3 (!x3) x132000 x132001) else (round_Round.j3 k x0 x2 x10 x11 x3 false x132000 x132001))
def round_Round.j4 : Nat → Bool → Int → Int → Bool → Bool → Int → Int → Option (Int × Int)
 | 0, _, _, _, _, _, _, _ => none
 | k + 1, x0, x2, x10, x11, x12, x132000, x132001 => if x132001 = 9007199254740992 then (round_Round.j5 k x0 (wrap64 ((wrap64 (x2 + x10)) + 1)) x11 x12 (x132001 / 2)) else (round_Round.j5 k x0 (wrap64 (x2 + x10)) x11 x12 x132001)
def round_Round.j5 : Nat → Bool → Int → Bool → Bool → Int → Option (Int × Int)
 | 0, _, _, _, _, _ => none
 | k + 1, x0, x2, x11, x12, x16 => if x12 = true then (if x11 = true then (round_Round.j6 k x0 x2 x16 (Go.bits .or .u8 (Go.bits .or .u8 0 1) 2)) else (round_Round.j6 k x0 x2 x16 (Go.bits .or .u8 0 1))) else (round_Round.j6 k x0 x2 x16 0)
def round_Round.j6 : Nat → Bool → Int → Int → Int → Option (Int × Int)
 | 0, _, _, _, _ => none
 | k + 1, x0, x2, x16, x17 => if x16 < 4503599627370496 then ((word_Make.f x0 0 x16).bind fun t150 => (some (t150, x17))) else (if (wrap64 (x2 + 1075)) ≥ 2047 then ((word_Make.f x0 2047 0).bind fun t151 => (some (t151, Go.bits .or .u8 (Go.bits .or .u8 x17 4) 1))) else ((word_Make.f x0 (wrap64 (x2 + 1075)) x16).bind fun t152 => (some (t152, x17))))
def round_Round.j1 : Nat → Bool → Int → Bool → Int → Bool → Bool → Bool → Bool → Int → Int → Option (Int × Int)
 | 0, _, _, _, _, _, _, _, _, _, _ => none
 | k + 1, x0, x2, x3, x10, x11, x12, x13, x15, x141000, x141001 => if x13 = true then (if x15 = true then (round_Round.j2 k x0 x2 x10 x11 x12 true x141000 x141001) else (if x3 = true then (round_Round.j2 k x0 x2 x10 x11 x12 true x141000 x141001) else (round_Round.j2 k x0 x2 x10 x11 x12 ((Go.bits .and .u64 x141001 1) == 1) x141000 x141001))) else (round_Round.j2 k x0 x2 x10 x11 x12 false x141000 x141001)
def round_Round.j2 : Nat → Bool → Int → Int → Bool → Bool → Bool → Int → Int → Option (Int × Int)
 | 0, _, _, _, _, _, _, _, _ => none
 | k + 1, x0, x2, x10, x11, x12, x79, x132000, x132001 => if x79 = true then ((wide_Wide_Add.f x132000 x132001 0 1).bind fun bt143 => (round_Round.j4 k x0 x2 x10 x11 x12 bt143.1 bt143.2.1)) else (round_Round.j4 k x0 x2 x10 x11 x12 x132000 x132001)
def round_Round.j3 : Nat → Bool → Int → Int → Bool → Bool → Bool → Int → Int → Option (Int × Int)
 | 0, _, _, _, _, _, _, _, _ => none
 | k + 1, x0, x2, x10, x11, x12, x91, x132000, x132001 => if x91 = true then ((wide_Wide_Left.f x132000 x132001 (wrap64 (-x10))).bind fun bt146 => (round_Round.j4 k x0 x2 x10 x11 x12 bt146.1 bt146.2)) else (if x10 < 0 then ((wide_Wide_Left.f x132000 x132001 (wrap64 (-x10))).bind fun bt148 => (round_Round.j4 k x0 x2 x10 x11 x12 bt148.1 bt148.2)) else (round_Round.j4 k x0 x2 x10 x11 x12 x132000 x132001))
end
def round_Round.f (k : Nat) (a0 : Bool) (a1_0 : Int) (a1_1 : Int) (a2 : Int) (a3 : Bool) : Option (Int × Int) := (wide_Wide_Zero.f a1_0 a1_1).bind fun t132 => (if t132 = true then (if a3 = true then ((word_Make.f a0 0 0).bind fun t134 => (some (t134, 3))) else ((word_Make.f a0 0 0).bind fun t133 => (some (t133, 0)))) else ((wide_Wide_Len.f k a1_0 a1_1).bind fun t135 => ((wide_Wide_Len.f k a1_0 a1_1).bind fun t136 => (if (wrap64 ((mx (-100000) (mn a2 100000)) + (wrap64 (t135 - 53)))) < (-1074) then (round_Round.j0 k a0 (mx (-100000) (mn a2 100000)) a3 ((-1074) - (mx (-100000) (mn a2 100000))) (decide ((wrap64 ((mx (-100000) (mn a2 100000)) + t136)) < (-1021))) a1_0 a1_1) else (round_Round.j0 k a0 (mx (-100000) (mn a2 100000)) a3 (wrap64 (t135 - 53)) (decide ((wrap64 ((mx (-100000) (mn a2 100000)) + t136)) < (-1021))) a1_0 a1_1)))))
theorem round_Round.mono_l : ∀ k, (∀ y0 y1 y2 y3 y4 y5 y6, LeO (round_Round.j0 k y0 y1 y2 y3 y4 y5 y6) (round_Round.j0 (k + 1) y0 y1 y2 y3 y4 y5 y6)) ∧ (∀ y0 y1 y2 y3 y4 y5 y6, LeO (round_Round.j4 k y0 y1 y2 y3 y4 y5 y6) (round_Round.j4 (k + 1) y0 y1 y2 y3 y4 y5 y6)) ∧ (∀ y0 y1 y2 y3 y4, LeO (round_Round.j5 k y0 y1 y2 y3 y4) (round_Round.j5 (k + 1) y0 y1 y2 y3 y4)) ∧ (∀ y0 y1 y2 y3, LeO (round_Round.j6 k y0 y1 y2 y3) (round_Round.j6 (k + 1) y0 y1 y2 y3)) ∧ (∀ y0 y1 y2 y3 y4 y5 y6 y7 y8 y9, LeO (round_Round.j1 k y0 y1 y2 y3 y4 y5 y6 y7 y8 y9) (round_Round.j1 (k + 1) y0 y1 y2 y3 y4 y5 y6 y7 y8 y9)) ∧ (∀ y0 y1 y2 y3 y4 y5 y6 y7, LeO (round_Round.j2 k y0 y1 y2 y3 y4 y5 y6 y7) (round_Round.j2 (k + 1) y0 y1 y2 y3 y4 y5 y6 y7)) ∧ (∀ y0 y1 y2 y3 y4 y5 y6 y7, LeO (round_Round.j3 k y0 y1 y2 y3 y4 y5 y6 y7) (round_Round.j3 (k + 1) y0 y1 y2 y3 y4 y5 y6 y7))
 | 0 => ⟨fun _ _ _ _ _ _ _ r h => by simp [round_Round.j0] at h, fun _ _ _ _ _ _ _ r h => by simp [round_Round.j4] at h, fun _ _ _ _ _ r h => by simp [round_Round.j5] at h, fun _ _ _ _ r h => by simp [round_Round.j6] at h, fun _ _ _ _ _ _ _ _ _ _ r h => by simp [round_Round.j1] at h, fun _ _ _ _ _ _ _ _ r h => by simp [round_Round.j2] at h, fun _ _ _ _ _ _ _ _ r h => by simp [round_Round.j3] at h⟩
 | k + 1 => by
  obtain ⟨ih0, ih1, ih2, ih3, ih4, ih5, ih6⟩ := round_Round.mono_l k
  refine ⟨?_, ?_, ?_, ?_, ?_, ?_, ?_⟩ <;> intros <;> (first | unfold round_Round.j0 | unfold round_Round.j4 | unfold round_Round.j5 | unfold round_Round.j6 | unfold round_Round.j1 | unfold round_Round.j2 | unfold round_Round.j3) <;>
   repeat' with_reducible first | apply ih0 | apply ih1 | apply ih2 | apply ih3 | apply ih4 | apply ih5 | apply ih6 | apply round_split.mono | apply wide_Wide_Len.mono | apply wide_Wide_Right.mono | exact LeO.refl _ | exact LeO.none _ | refine LeO.ite ?_ ?_ | refine LeO.bind ?_ (fun _ => ?_)
theorem round_Round.mono : ∀ a0 a1 a2 a3 a4 k, LeO (round_Round.f k a0 a1 a2 a3 a4) (round_Round.f (k + 1) a0 a1 a2 a3 a4) := by
 intro a0 a1 a2 a3 a4 k
 obtain ⟨ih0, ih1, ih2, ih3, ih4, ih5, ih6⟩ := round_Round.mono_l k
 unfold round_Round.f
 repeat' with_reducible first | apply ih0 | apply ih1 | apply ih2 | apply ih3 | apply ih4 | apply ih5 | apply ih6 | apply round_split.mono | apply wide_Wide_Len.mono | apply wide_Wide_Right.mono | exact LeO.refl _ | exact LeO.none _ | refine LeO.ite ?_ ?_ | refine LeO.bind ?_ (fun _ => ?_)
set_option maxHeartbeats 8000000 in
set_option maxRecDepth 100000 in
theorem round_Round.calls (k : Nat) (a0 : Bool) (a1_0 : Int) (a1_1 : Int) (a2 : Int) (a3 : Bool) (r1 : Int) (r2 : Int) (w : World) (h : round_Round.f k a0 a1_0 a1_1 a2 a3 = some (r1, r2)) :
  Calls Try.prog 36 #[.bool a0, .agg #[.int .u64 a1_0, .int .u64 a1_1], .int .i64 a2, .bool a3] w fun e w' => e = .returned (.tuple #[.int .u64 r1, .int .u8 r2]) ∧ Below w.heap.size w w' := by
 have hu67 := Try.underlying67
 have HB := Aside0.mk (Below.refl w.heap.size w)
 have H : ((wide_Wide_Zero.f a1_0 a1_1).bind fun t132 => (if t132 = true then (if a3 = true then ((word_Make.f a0 0 0).bind fun t134 => (some (t134, 3))) else ((word_Make.f a0 0 0).bind fun t133 => (some (t133, 0)))) else ((wide_Wide_Len.f k a1_0 a1_1).bind fun t135 => ((wide_Wide_Len.f k a1_0 a1_1).bind fun t136 => (if (wrap64 ((mx (-100000) (mn a2 100000)) + (wrap64 (t135 - 53)))) < (-1074) then (round_Round.j0 k a0 (mx (-100000) (mn a2 100000)) a3 ((-1074) - (mx (-100000) (mn a2 100000))) (decide ((wrap64 ((mx (-100000) (mn a2 100000)) + t136)) < (-1021))) a1_0 a1_1) else (round_Round.j0 k a0 (mx (-100000) (mn a2 100000)) a3 (wrap64 (t135 - 53)) (decide ((wrap64 ((mx (-100000) (mn a2 100000)) + t136)) < (-1021))) a1_0 a1_1)))))) = some (r1, r2) := h
 clear h
 obtain ⟨ji5, hji5⟩ : ∃ j_ : Int, (mn a2 100000) = j_ := ⟨_, rfl⟩
 replace H : ((wide_Wide_Zero.f a1_0 a1_1).bind fun t132 => (if t132 = true then (if a3 = true then ((word_Make.f a0 0 0).bind fun t134 => (some (t134, 3))) else ((word_Make.f a0 0 0).bind fun t133 => (some (t133, 0)))) else ((wide_Wide_Len.f k a1_0 a1_1).bind fun t135 => ((wide_Wide_Len.f k a1_0 a1_1).bind fun t136 => (if (wrap64 ((mx (-100000) (ji5)) + (wrap64 (t135 - 53)))) < (-1074) then (round_Round.j0 k a0 (mx (-100000) (ji5)) a3 ((-1074) - (mx (-100000) (ji5))) (decide ((wrap64 ((mx (-100000) (ji5)) + t136)) < (-1021))) a1_0 a1_1) else (round_Round.j0 k a0 (mx (-100000) (ji5)) a3 (wrap64 (t135 - 53)) (decide ((wrap64 ((mx (-100000) (ji5)) + t136)) < (-1021))) a1_0 a1_1)))))) = some (r1, r2) := by first | (rw [hji5] at H; exact H) | (simp only [hji5] at H ⊢; exact H)
 (try (have hji5h : ji5 ≤ 100000 := by (rw [← hji5]; unfold mn; (repeat' split) <;> omega)))
 (try (have hji5g : ji5 ≤ 64 := by omega))
 have hji5_ : (if 100000 < a2 then 100000 else a2) = ji5 := hji5
 obtain ⟨ji6, hji6⟩ : ∃ j_ : Int, (mx (-100000) (ji5)) = j_ := ⟨_, rfl⟩
 replace H : ((wide_Wide_Zero.f a1_0 a1_1).bind fun t132 => (if t132 = true then (if a3 = true then ((word_Make.f a0 0 0).bind fun t134 => (some (t134, 3))) else ((word_Make.f a0 0 0).bind fun t133 => (some (t133, 0)))) else ((wide_Wide_Len.f k a1_0 a1_1).bind fun t135 => ((wide_Wide_Len.f k a1_0 a1_1).bind fun t136 => (if (wrap64 ((ji6) + (wrap64 (t135 - 53)))) < (-1074) then (round_Round.j0 k a0 ji6 a3 ((-1074) - (ji6)) (decide ((wrap64 ((ji6) + t136)) < (-1021))) a1_0 a1_1) else (round_Round.j0 k a0 ji6 a3 (wrap64 (t135 - 53)) (decide ((wrap64 ((ji6) + t136)) < (-1021))) a1_0 a1_1)))))) = some (r1, r2) := by first | (rw [hji6] at H; exact H) | (simp only [hji6] at H ⊢; exact H)
 have hji6_ : (if (-100000) < (ji5) then (ji5) else (-100000)) = ji6 := hji6
 obtain ⟨t132, A70, H⟩ := Option.bind_eq_some_iff.mp H
 (try dsimp -simprocs only at H)
 have A7 := Aside0.mk A70
 clear A70
 by_cases c8 : t132 = true
 ·
  subst c8
  rw [if_pos rfl] at H
  by_cases c9 : a3 = true
  ·
   subst c9
   rw [if_pos rfl] at H
   obtain ⟨t134, A100, H⟩ := Option.bind_eq_some_iff.mp H
   (try dsimp -simprocs only at H)
   have A10 := Aside0.mk A100
   clear A100
   simp only [Option.some.injEq, Prod.mk.injEq] at H
   obtain ⟨rfl, rfl⟩ := H
   go_enter Try.func36, Try.ntmps36
   go_wp2_with (first | ((with_reducible refine gate_dst (N := 5) rfl ?_); refine gbox (N := 5) (cs := #[.int .u64 a1_0, .int .u64 a1_1]) (t := 67) ?_; intro gb131 hg w11 hbox hb; refine ax4 (below_step bel hb) hbox ((ge hg : w.heap.size ≤ gb131)) ((ge hg : w.heap.size ≤ gb131)) ?_; clear HB; intro HB BK131 GW131 GE131; clear hb hbox hg; have hcz12_0 := bc BK131 0 rfl; have hcz12_1 := bc BK131 1 rfl; have hfz12_0 := blk_frozen BK131.out 0; have hfz12_1 := blk_frozen BK131.out 1) | ((with_reducible refine gate_callee (f := 52) rfl ?_); refine goesL_ (some 22) rfl rfl Try.func52 (by kernel_rfl) rfl #[.agg #[.int .u64 a1_0, .int .u64 a1_1]] rfl ga ?_; (with_reducible refine (wide_Wide_Zero.calls a1_0 a1_1 true _ A7.out).mono ?_); rintro e w13 ⟨rfl, hb⟩; refine ⟨_, rfl, ?_⟩; refine ax2 (bb BK131 hb) (below_step bes hb) ?_; clear BK131; clear HB; intro BK131 HB; (try clear hb)) | ((with_reducible refine gate_callee (f := 46) rfl ?_); refine goesL_ (some 28) rfl rfl Try.func46 (by kernel_rfl) rfl #[.bool a0, .int .i64 0, .int .u64 0] rfl ga ?_; (with_reducible refine (word_Make.calls a0 0 0 t134 _ A10.out).mono ?_); rintro e w' ⟨rfl, ⟨nd, rfl⟩⟩; refine ⟨_, rfl, ?_⟩))
   go_ret2
   exact ⟨by first | rfl | (simp [errW_none, errW_some] <;> rfl) | (simp only [← hji5, ← hji6]; first | rfl | (simp [errW_none, errW_some] <;> rfl)) | (simp [*, errW_none, errW_some] <;> rfl), bes⟩
  ·
   replace c9 := Bool.eq_false_iff.mpr c9
   subst c9
   rw [if_neg (show ¬ (false = true) by decide)] at H
   obtain ⟨t133, A140, H⟩ := Option.bind_eq_some_iff.mp H
   (try dsimp -simprocs only at H)
   have A14 := Aside0.mk A140
   clear A140
   simp only [Option.some.injEq, Prod.mk.injEq] at H
   obtain ⟨rfl, rfl⟩ := H
   go_enter Try.func36, Try.ntmps36
   go_wp2_with (first | ((with_reducible refine gate_dst (N := 5) rfl ?_); refine gbox (N := 5) (cs := #[.int .u64 a1_0, .int .u64 a1_1]) (t := 67) ?_; intro gb131 hg w15 hbox hb; refine ax4 (below_step bel hb) hbox ((ge hg : w.heap.size ≤ gb131)) ((ge hg : w.heap.size ≤ gb131)) ?_; clear HB; intro HB BK131 GW131 GE131; clear hb hbox hg; have hcz16_0 := bc BK131 0 rfl; have hcz16_1 := bc BK131 1 rfl; have hfz16_0 := blk_frozen BK131.out 0; have hfz16_1 := blk_frozen BK131.out 1) | ((with_reducible refine gate_callee (f := 52) rfl ?_); refine goesL_ (some 22) rfl rfl Try.func52 (by kernel_rfl) rfl #[.agg #[.int .u64 a1_0, .int .u64 a1_1]] rfl ga ?_; (with_reducible refine (wide_Wide_Zero.calls a1_0 a1_1 true _ A7.out).mono ?_); rintro e w17 ⟨rfl, hb⟩; refine ⟨_, rfl, ?_⟩; refine ax2 (bb BK131 hb) (below_step bes hb) ?_; clear BK131; clear HB; intro BK131 HB; (try clear hb)) | ((with_reducible refine gate_callee (f := 46) rfl ?_); refine goesL_ (some 26) rfl rfl Try.func46 (by kernel_rfl) rfl #[.bool a0, .int .i64 0, .int .u64 0] rfl ga ?_; (with_reducible refine (word_Make.calls a0 0 0 t133 _ A14.out).mono ?_); rintro e w' ⟨rfl, ⟨nd, rfl⟩⟩; refine ⟨_, rfl, ?_⟩))
   go_ret2
   exact ⟨by first | rfl | (simp [errW_none, errW_some] <;> rfl) | (simp only [← hji5, ← hji6]; first | rfl | (simp [errW_none, errW_some] <;> rfl)) | (simp [*, errW_none, errW_some] <;> rfl), bes⟩
 ·
  replace c8 := Bool.eq_false_iff.mpr c8
  subst c8
  rw [if_neg (show ¬ (false = true) by decide)] at H
  obtain ⟨t135, A180, H⟩ := Option.bind_eq_some_iff.mp H
  (try dsimp -simprocs only at H)
  have A18 := Aside0.mk A180
  clear A180
  obtain ⟨t136, A190, H⟩ := Option.bind_eq_some_iff.mp H
  (try dsimp -simprocs only at H)
  have A19 := Aside0.mk A190
  clear A190
  have HC20 := Aside0.mk H
  clear H
  go_enter Try.func36, Try.ntmps36
  go_upto_if 40 with (first | ((with_reducible refine gate_dst (N := 5) rfl ?_); refine gbox (N := 5) (cs := #[.int .u64 a1_0, .int .u64 a1_1]) (t := 67) ?_; intro gb131 hg w21 hbox hb; refine ax4 (below_step bel hb) hbox ((ge hg : w.heap.size ≤ gb131)) ((ge hg : w.heap.size ≤ gb131)) ?_; clear HB; intro HB BK131 GW131 GE131; clear hb hbox hg; have hcz22_0 := bc BK131 0 rfl; have hcz22_1 := bc BK131 1 rfl; have hfz22_0 := blk_frozen BK131.out 0; have hfz22_1 := blk_frozen BK131.out 1) | ((with_reducible refine gate_callee (f := 52) rfl ?_); refine goesL_ (some 22) rfl rfl Try.func52 (by kernel_rfl) rfl #[.agg #[.int .u64 a1_0, .int .u64 a1_1]] rfl ga ?_; (with_reducible refine (wide_Wide_Zero.calls a1_0 a1_1 false _ A7.out).mono ?_); rintro e w23 ⟨rfl, hb⟩; refine ⟨_, rfl, ?_⟩; refine ax2 (bb BK131 hb) (below_step bes hb) ?_; clear BK131; clear HB; intro BK131 HB; (try clear hb); have hcz24_0 := bc BK131 0 rfl; have hcz24_1 := bc BK131 1 rfl; have hfz24_0 := blk_frozen BK131.out 0; have hfz24_1 := blk_frozen BK131.out 1) | ((with_reducible refine gate_callee (f := 49) rfl ?_); refine goesL_ (some 30) rfl rfl Try.func49 (by kernel_rfl) rfl #[.agg #[.int .u64 a1_0, .int .u64 a1_1]] rfl ga ?_; (with_reducible refine (wide_Wide_Len.calls k a1_0 a1_1 t135 _ A18.out).mono ?_); rintro e w25 ⟨rfl, hb⟩; refine ⟨_, rfl, ?_⟩; refine ax2 (bb BK131 hb) (below_step bes hb) ?_; clear BK131; clear HB; intro BK131 HB; (try clear hb); have hcz26_0 := bc BK131 0 rfl; have hcz26_1 := bc BK131 1 rfl; have hfz26_0 := blk_frozen BK131.out 0; have hfz26_1 := blk_frozen BK131.out 1) | ((with_reducible refine gate_callee (f := 49) rfl ?_); refine goesL_ (some 34) rfl rfl Try.func49 (by kernel_rfl) rfl #[.agg #[.int .u64 a1_0, .int .u64 a1_1]] rfl ga ?_; (with_reducible refine (wide_Wide_Len.calls k a1_0 a1_1 t136 _ A19.out).mono ?_); rintro e w27 ⟨rfl, hb⟩; refine ⟨_, rfl, ?_⟩; refine ax2 (bb BK131 hb) (below_step bes hb) ?_; clear BK131; clear HB; intro BK131 HB; (try clear hb)))
  (try simp only [Act.put, sa0, sa1, sa2])
  go_cut [10, 11] (fun v10 v11 wc => ∃ (kq : Nat) (x10_19 : Int) (x11_19 : Bool), v10 = .int .i64 x10_19 ∧ v11 = .bool x11_19 ∧ Aside0 (round_Round.j0 kq a0 ji6 a3 x10_19 x11_19 a1_0 a1_1 = some (r1, r2)) ∧ Aside0 (kq ≤ k) ∧ Aside0 (wc.heap[gb131]? = some (.cells #[.int .u64 a1_0, .int .u64 a1_1] 67 (0, 0))) ∧ Aside0 (Below w.heap.size w wc))
  case first =>
   have H := HC20.out
   clear HC20
   by_cases c28 : (wrap64 ((ji6) + (wrap64 (t135 - 53)))) < (-1074)
   rotate_left
   ·
    rw [if_neg c28] at H
    have c28b0 : decide ((wrap64 ((ji6) + (wrap64 (t135 - 53)))) < (-1074)) = false := decide_eq_false c28
    clear c28
    (first | rw [c28b0] | (simp only [i64_w, i32_w]; rw [c28b0]) | skip)
    have H' := Aside0.mk H
    clear H
    go_wp2
    go_meet
    case rel => exact ⟨_, (wrap64 (t135 - 53)), (decide ((wrap64 ((ji6) + t136)) < (-1021))), (by first | rfl | (simp; done) | (simp [*]; done)), (by first | rfl | (simp; done) | (simp only [← hji6] <;> (first | rfl | simp)) | (simp [*]; done)), H', ⟨by first | omega | exact Nat.le_refl _⟩, ⟨kb BK131⟩, ⟨bes⟩⟩
   rw [if_pos c28] at H
   have c28b0 : decide ((wrap64 ((ji6) + (wrap64 (t135 - 53)))) < (-1074)) = true := decide_eq_true c28
   clear c28
   (first | rw [c28b0] | (simp only [i64_w, i32_w]; rw [c28b0]) | skip)
   have H' := Aside0.mk H
   clear H
   go_wp2
   go_meet
   case rel => exact ⟨_, ((-1074) - (ji6)), (decide ((wrap64 ((ji6) + t136)) < (-1021))), (by first | rfl | (simp; done) | (simp only [← hji6] <;> (first | rfl | simp)) | (simp [*]; done)), (by first | rfl | (simp; done) | (simp only [← hji6] <;> (first | rfl | simp)) | (simp [*]; done)), H', ⟨by first | omega | exact Nat.le_refl _⟩, ⟨kb BK131⟩, ⟨bes⟩⟩
  case rest =>
   clear HC20
   try clear c2
   try clear p2
   try clear c3
   try clear c4
   try clear c5
   try clear p6
   try clear c8
   try clear c9
   try clear c28
   try clear c28b0
   try clear hcz12_0
   try clear hcz12_1
   try clear hcz16_0
   try clear hcz16_1
   try clear hcz22_0
   try clear hcz22_1
   try clear hcz24_0
   try clear hcz24_1
   try clear hcz26_0
   try clear hcz26_1
   try clear hfz12_0
   try clear hfz12_1
   try clear hfz16_0
   try clear hfz16_1
   try clear hfz22_0
   try clear hfz22_1
   try clear hfz24_0
   try clear hfz24_1
   try clear hfz26_0
   try clear hfz26_1
   obtain ⟨kq, x10_19, x11_19, rfl, rfl, HA, HJ19, BK131, HB⟩ := hcut
   cases kq with
   | zero => exact absurd HA.out (by simp [round_Round.j0])
   | succ kj19 =>
    have H := HA.out
    clear HA
    simp only [round_Round.j0] at H
    have HC29 := Aside0.mk H
    clear H
    go_upto_if 45 with (fail)
    go_cut [12] (fun v12 wc => ∃ (kq : Nat) (x12_28 : Bool) (x132000_28 : Int) (x132001_28 : Int), v12 = .bool x12_28 ∧ Aside0 (round_Round.j4 kq a0 ji6 x10_19 x11_19 x12_28 x132000_28 x132001_28 = some (r1, r2)) ∧ Aside0 (kq ≤ kj19) ∧ Aside0 (wc.heap[gb131]? = some (.cells #[.int .u64 x132000_28, .int .u64 x132001_28] 67 (0, 0))) ∧ Aside0 (Below w.heap.size w wc))
    case first =>
     have H := HC29.out
     clear HC29
     by_cases c30 : x10_19 > 0
     ·
      rw [if_pos c30] at H
      have c30b0 : decide (0 < x10_19) = true := decide_eq_true c30
      clear c30
      (first | rw [c30b0] | (simp only [i64_w, i32_w]; rw [c30b0]) | skip)
      obtain ⟨⟨t137, t138, t139⟩, A310, H⟩ := Option.bind_eq_some_iff.mp H
      (try dsimp -simprocs only at H)
      have A31 := Aside0.mk A310
      clear A310
      obtain ⟨⟨t141, t142⟩, A320, H⟩ := Option.bind_eq_some_iff.mp H
      (try dsimp -simprocs only at H)
      have A32 := Aside0.mk A320
      clear A320
      have HC33 := Aside0.mk H
      clear H
      have hcz34_0 := bc BK131 0 rfl
      have hcz34_1 := bc BK131 1 rfl
      have hfz34_0 := blk_frozen BK131.out 0
      have hfz34_1 := blk_frozen BK131.out 1
      go_upto_region 15 with (first | ((with_reducible refine gate_callee (f := 53) rfl ?_); refine goesL_ (some 49) rfl rfl Try.func53 (by kernel_rfl) rfl #[.agg #[.int .u64 a1_0, .int .u64 a1_1], .int .i64 x10_19] rfl ga ?_; (with_reducible refine (wide_Wide_Right.calls kj19 a1_0 a1_1 x10_19 t137 t138 t139 _ A31.out).mono ?_); rintro e w35 ⟨rfl, hb⟩; refine ⟨_, rfl, ?_⟩; refine ax2 (bb BK131 hb) (below_step bes hb) ?_; clear BK131; clear HB; intro BK131 HB; (try clear hb)) | ((with_reducible refine gate_dst (N := 14) rfl ?_); refine gbox (N := 14) (cs := #[.int .u64 0, .int .u64 0]) (t := 67) ?_; intro gb140 hg w36 hbox hb; refine ax7 (bb BK131 hb) (below_step bes hb) hbox ((ge hg : w.heap.size ≤ gb140)) ((ge hg : w.heap.size ≤ gb140)) (nl hg BK131) (ng hg BK131) ?_; clear BK131; clear HB; intro BK131 HB BK140 GW140 GE140 NB131_140 NB140_131; clear hb hbox hg; have hnb37 := NB140_131.out; have hnc37 := NB131_140.out; have hcz38_0 := bc BK140 0 rfl; have hcz38_1 := bc BK140 1 rfl; have hfz38_0 := blk_frozen BK140.out 0; have hfz38_1 := blk_frozen BK140.out 1; have hcz39_0 := bc BK131 0 rfl; have hcz39_1 := bc BK131 1 rfl; have hfz39_0 := blk_frozen BK131.out 0; have hfz39_1 := blk_frozen BK131.out 1) | ((with_reducible refine gate_callee (f := 54) rfl ?_); refine goesL_ (some 56) rfl rfl Try.func54 (by kernel_rfl) rfl #[.agg #[.int .u64 a1_0, .int .u64 a1_1], .int .i64 x10_19, .bool t139] rfl ga ?_; (with_reducible refine (round_split.calls kj19 a1_0 a1_1 x10_19 t139 t141 t142 _ A32.out).mono ?_); rintro e w40 ⟨rfl, hb⟩; refine ⟨_, rfl, ?_⟩; refine ax3 (blk_below (g := gb131) (o := .cells #[.int .u64 a1_0, .int .u64 a1_1] 67 (0, 0)) (bf BK131 NB131_140) hb) (blk_below (g := gb140) (o := .cells #[.int .u64 t137, .int .u64 t138] 67 (0, 0)) (bp BK140) hb) (below_step bes hb) ?_; clear BK131; clear BK140; clear HB; intro BK131 BK140 HB; (try clear hb)))
      (try simp only [Act.put, sa0, sa1, sa2])
      go_cut [12] (fun v12 wc => ∃ (kq : Nat) (x12_32 : Bool), v12 = .bool x12_32 ∧ Aside0 (round_Round.j1 kq a0 ji6 a3 x10_19 x11_19 x12_32 t141 t142 t137 t138 = some (r1, r2)) ∧ Aside0 (kq ≤ kj19) ∧ Aside0 (wc.heap[gb131]? = some (.cells #[.int .u64 a1_0, .int .u64 a1_1] 67 (0, 0))) ∧ Aside0 (wc.heap[gb140]? = some (.cells #[.int .u64 t137, .int .u64 t138] 67 (0, 0))) ∧ Aside0 (Below w.heap.size w wc))
      case first =>
       have H := HC33.out
       clear HC33
       by_cases c41 : t141 = true
       ·
        subst c41
        rw [if_pos rfl] at H
        have H' := Aside0.mk H
        clear H
        go_wp2
        go_meet
        case rel => exact ⟨_, (true), (by first | rfl | (simp; done) | (simp [*]; done)), H', ⟨by have := HJ19.out; first | omega | exact Nat.le_refl _⟩, ⟨kb BK131⟩, ⟨kb BK140⟩, ⟨bes⟩⟩
       ·
        replace c41 := Bool.eq_false_iff.mpr c41
        subst c41
        rw [if_neg (show ¬ (false = true) by decide)] at H
        by_cases c42 : t142 = true
        ·
         subst c42
         rw [if_pos rfl] at H
         have H' := Aside0.mk H
         clear H
         go_wp2
         go_meet
         case rel => exact ⟨_, (true), (by first | rfl | (simp; done) | (simp [*]; done)), H', ⟨by have := HJ19.out; first | omega | exact Nat.le_refl _⟩, ⟨kb BK131⟩, ⟨kb BK140⟩, ⟨bes⟩⟩
        ·
         replace c42 := Bool.eq_false_iff.mpr c42
         subst c42
         rw [if_neg (show ¬ (false = true) by decide)] at H
         have H' := Aside0.mk H
         clear H
         go_wp2
         go_meet
         case rel => exact ⟨_, (a3), (by first | rfl | (simp; done) | (simp [*]; done)), H', ⟨by have := HJ19.out; first | omega | exact Nat.le_refl _⟩, ⟨kb BK131⟩, ⟨kb BK140⟩, ⟨bes⟩⟩
      case rest =>
       clear HC33
       try clear c2
       try clear p2
       try clear c3
       try clear c4
       try clear c5
       try clear p6
       try clear c8
       try clear c9
       try clear c28
       try clear c28b0
       try clear c30
       try clear c30b0
       try clear c36
       try clear c37
       try clear c41
       try clear c42
       try clear hcz12_0
       try clear hcz12_1
       try clear hcz16_0
       try clear hcz16_1
       try clear hcz22_0
       try clear hcz22_1
       try clear hcz24_0
       try clear hcz24_1
       try clear hcz26_0
       try clear hcz26_1
       try clear hcz34_0
       try clear hcz34_1
       try clear hcz38_0
       try clear hcz38_1
       try clear hcz39_0
       try clear hcz39_1
       try clear hfz12_0
       try clear hfz12_1
       try clear hfz16_0
       try clear hfz16_1
       try clear hfz22_0
       try clear hfz22_1
       try clear hfz24_0
       try clear hfz24_1
       try clear hfz26_0
       try clear hfz26_1
       try clear hfz34_0
       try clear hfz34_1
       try clear hfz38_0
       try clear hfz38_1
       try clear hfz39_0
       try clear hfz39_1
       try clear p2
       try clear p6
       obtain ⟨kq, x12_32, rfl, HA, HJ32, BK131, BK140, HB⟩ := hcut
       cases kq with
       | zero => exact absurd HA.out (by simp [round_Round.j1])
       | succ kj32 =>
        have H := HA.out
        clear HA
        simp only [round_Round.j1] at H
        have HC43 := Aside0.mk H
        clear H
        have hnb44 := NB140_131.out
        have hnc44 := NB131_140.out
        have hcz45_0 := bc BK140 0 rfl
        have hcz45_1 := bc BK140 1 rfl
        have hfz45_0 := blk_frozen BK140.out 0
        have hfz45_1 := blk_frozen BK140.out 1
        have hcz46_0 := bc BK131 0 rfl
        have hcz46_1 := bc BK131 1 rfl
        have hfz46_0 := blk_frozen BK131.out 0
        have hfz46_1 := blk_frozen BK131.out 1
        go_upto_region 17 with (fail)
        go_cut [79] (fun v79 wc => ∃ (kq : Nat) (x79_42 : Bool), v79 = .bool x79_42 ∧ Aside0 (round_Round.j2 kq a0 ji6 x10_19 x11_19 x12_32 x79_42 t137 t138 = some (r1, r2)) ∧ Aside0 (kq ≤ kj32) ∧ Aside0 (wc.heap[gb131]? = some (.cells #[.int .u64 t137, .int .u64 t138] 67 (0, 0))) ∧ Aside0 (wc.heap[gb140]? = some (.cells #[.int .u64 t137, .int .u64 t138] 67 (0, 0))) ∧ Aside0 (Below w.heap.size w wc))
        case first =>
         have H := HC43.out
         clear HC43
         by_cases c47 : t141 = true
         rotate_left
         ·
          replace c47 := Bool.eq_false_iff.mpr c47
          subst c47
          rw [if_neg (show ¬ (false = true) by decide)] at H
          have H' := Aside0.mk H
          clear H
          go_wp2
          go_meet
          case rel => exact ⟨_, (false), (by first | rfl | (simp; done) | (simp [*]; done)), H', ⟨by have := HJ19.out; have := HJ32.out; first | omega | exact Nat.le_refl _⟩, ⟨bp BK131⟩, ⟨bf BK140 NB140_131⟩, ⟨bes⟩⟩
         subst c47
         rw [if_pos rfl] at H
         by_cases c48 : t142 = true
         ·
          subst c48
          rw [if_pos rfl] at H
          have H' := Aside0.mk H
          clear H
          go_wp2
          go_meet
          case rel => exact ⟨_, (true), (by first | rfl | (simp; done) | (simp [*]; done)), H', ⟨by have := HJ19.out; have := HJ32.out; first | omega | exact Nat.le_refl _⟩, ⟨bp BK131⟩, ⟨bf BK140 NB140_131⟩, ⟨bes⟩⟩
         ·
          replace c48 := Bool.eq_false_iff.mpr c48
          subst c48
          rw [if_neg (show ¬ (false = true) by decide)] at H
          by_cases c49 : a3 = true
          ·
           subst c49
           rw [if_pos rfl] at H
           have H' := Aside0.mk H
           clear H
           go_wp2
           go_meet
           case rel => exact ⟨_, (true), (by first | rfl | (simp; done) | (simp [*]; done)), H', ⟨by have := HJ19.out; have := HJ32.out; first | omega | exact Nat.le_refl _⟩, ⟨bp BK131⟩, ⟨bf BK140 NB140_131⟩, ⟨bes⟩⟩
          ·
           replace c49 := Bool.eq_false_iff.mpr c49
           subst c49
           rw [if_neg (show ¬ (false = true) by decide)] at H
           have H' := Aside0.mk H
           clear H
           have hnb50 := NB131_140.out
           have hnc50 := NB140_131.out
           have hcz51_0 := bc BK131 0 rfl
           have hcz51_1 := bc BK131 1 rfl
           have hfz51_0 := blk_frozen BK131.out 0
           have hfz51_1 := blk_frozen BK131.out 1
           go_wp2
           go_meet
           case rel => exact ⟨_, (((Go.bits .and .u64 t138 1) == 1)), (by first | rfl | (simp; done) | (simp [*]; done)), H', ⟨by have := HJ19.out; have := HJ32.out; first | omega | exact Nat.le_refl _⟩, ⟨bp BK131⟩, ⟨bf BK140 NB140_131⟩, ⟨bes⟩⟩
        case rest =>
         clear HC43
         try clear c2
         try clear p2
         try clear c3
         try clear c4
         try clear c5
         try clear p6
         try clear c8
         try clear c9
         try clear c28
         try clear c28b0
         try clear c30
         try clear c30b0
         try clear c36
         try clear c37
         try clear c41
         try clear c42
         try clear c44
         try clear c46
         try clear c47
         try clear c48
         try clear c49
         try clear c50
         try clear hcz12_0
         try clear hcz12_1
         try clear hcz16_0
         try clear hcz16_1
         try clear hcz22_0
         try clear hcz22_1
         try clear hcz24_0
         try clear hcz24_1
         try clear hcz26_0
         try clear hcz26_1
         try clear hcz34_0
         try clear hcz34_1
         try clear hcz38_0
         try clear hcz38_1
         try clear hcz39_0
         try clear hcz39_1
         try clear hcz45_0
         try clear hcz45_1
         try clear hcz46_0
         try clear hcz46_1
         try clear hcz51_0
         try clear hcz51_1
         try clear hfz12_0
         try clear hfz12_1
         try clear hfz16_0
         try clear hfz16_1
         try clear hfz22_0
         try clear hfz22_1
         try clear hfz24_0
         try clear hfz24_1
         try clear hfz26_0
         try clear hfz26_1
         try clear hfz34_0
         try clear hfz34_1
         try clear hfz38_0
         try clear hfz38_1
         try clear hfz39_0
         try clear hfz39_1
         try clear hfz45_0
         try clear hfz45_1
         try clear hfz46_0
         try clear hfz46_1
         try clear hfz51_0
         try clear hfz51_1
         try clear p2
         try clear p6
         obtain ⟨kq, x79_42, rfl, HA, HJ42, BK131, BK140, HB⟩ := hcut
         cases kq with
         | zero => exact absurd HA.out (by simp [round_Round.j2])
         | succ kj42 =>
          have H := HA.out
          clear HA
          simp only [round_Round.j2] at H
          by_cases c52 : x79_42 = true
          rotate_left
          ·
           replace c52 := Bool.eq_false_iff.mpr c52
           subst c52
           rw [if_neg (show ¬ (false = true) by decide)] at H
           have H' := Aside0.mk H
           clear H
           go_wp2
           go_meet
           case rel => exact ⟨_, (x12_32), (t137), (t138), (by first | rfl | (simp; done) | (simp [*]; done)), H', ⟨by have := HJ19.out; have := HJ32.out; have := HJ42.out; first | omega | exact Nat.le_refl _⟩, ⟨kb BK131⟩, ⟨bes⟩⟩
          subst c52
          rw [if_pos rfl] at H
          obtain ⟨⟨t143, t144, t145⟩, A530, H⟩ := Option.bind_eq_some_iff.mp H
          (try dsimp -simprocs only at H)
          have A53 := Aside0.mk A530
          clear A530
          have H' := Aside0.mk H
          clear H
          have hnb54 := NB131_140.out
          have hnc54 := NB140_131.out
          have hcz55_0 := bc BK131 0 rfl
          have hcz55_1 := bc BK131 1 rfl
          have hfz55_0 := blk_frozen BK131.out 0
          have hfz55_1 := blk_frozen BK131.out 1
          go_wp2_with (first | ((with_reducible refine gate_callee (f := 34) rfl ?_); refine goesL_ (some 83) rfl rfl Try.func34 (by kernel_rfl) rfl #[.agg #[.int .u64 t137, .int .u64 t138], .agg #[.int .u64 0, .int .u64 1]] rfl ga ?_; (with_reducible refine (wide_Wide_Add.calls t137 t138 0 1 t143 t144 t145 _ A53.out).mono ?_); rintro e w56 ⟨rfl, hb⟩; refine ⟨_, rfl, ?_⟩; refine ax3 (bb BK131 hb) (bb BK140 hb) (below_step bes hb) ?_; clear BK131; clear BK140; clear HB; intro BK131 BK140 HB; (try clear hb); have hcz57_0 := bc BK131 0 rfl; have hcz57_1 := bc BK131 1 rfl; have hfz57_0 := blk_frozen BK131.out 0; have hfz57_1 := blk_frozen BK131.out 1))
          go_meet
          case rel => exact ⟨_, (x12_32), (t143), (t144), (by first | rfl | (simp; done) | (simp [*]; done)), H', ⟨by have := HJ19.out; have := HJ32.out; have := HJ42.out; first | omega | exact Nat.le_refl _⟩, ⟨bp BK131⟩, ⟨bes⟩⟩
     ·
      rw [if_neg c30] at H
      have c30b0 : decide (0 < x10_19) = false := decide_eq_false c30
      clear c30
      (first | rw [c30b0] | (simp only [i64_w, i32_w]; rw [c30b0]) | skip)
      have HC58 := Aside0.mk H
      clear H
      go_upto_region 19 with (fail)
      go_cut [91] (fun v91 wc => ∃ (kq : Nat) (x91_57 : Bool), v91 = .bool x91_57 ∧ Aside0 (round_Round.j3 kq a0 ji6 x10_19 x11_19 a3 x91_57 a1_0 a1_1 = some (r1, r2)) ∧ Aside0 (kq ≤ kj19) ∧ Aside0 (wc.heap[gb131]? = some (.cells #[.int .u64 a1_0, .int .u64 a1_1] 67 (0, 0))) ∧ Aside0 (Below w.heap.size w wc))
      case first =>
       have H := HC58.out
       clear HC58
       by_cases c59 : x10_19 < 0
       rotate_left
       ·
        rw [if_neg c59] at H
        have c59b0 : decide (x10_19 < 0) = false := decide_eq_false c59
        clear c59
        (first | rw [c59b0] | (simp only [i64_w, i32_w]; rw [c59b0]) | skip)
        have H' := Aside0.mk H
        clear H
        go_wp2
        go_meet
        case rel => exact ⟨_, (false), (by first | rfl | (simp; done) | (simp [*]; done)), H', ⟨by have := HJ19.out; first | omega | exact Nat.le_refl _⟩, ⟨kb BK131⟩, ⟨bes⟩⟩
       rw [if_pos c59] at H
       have c59b0 : decide (x10_19 < 0) = true := decide_eq_true c59
       clear c59
       (first | rw [c59b0] | (simp only [i64_w, i32_w]; rw [c59b0]) | skip)
       have H' := Aside0.mk H
       clear H
       go_wp2
       go_meet
       case rel => exact ⟨_, (!a3), (by first | rfl | (simp; done) | (simp [*]; done)), H', ⟨by have := HJ19.out; first | omega | exact Nat.le_refl _⟩, ⟨kb BK131⟩, ⟨bes⟩⟩
      case rest =>
       clear HC58
       try clear c2
       try clear p2
       try clear c3
       try clear c4
       try clear c5
       try clear p6
       try clear c8
       try clear c9
       try clear c28
       try clear c28b0
       try clear c30
       try clear c30b0
       try clear c34
       try clear c36
       try clear c37
       try clear c41
       try clear c42
       try clear c44
       try clear c46
       try clear c47
       try clear c48
       try clear c49
       try clear c50
       try clear c52
       try clear c53
       try clear c54
       try clear c59
       try clear c59b0
       try clear hcz12_0
       try clear hcz12_1
       try clear hcz16_0
       try clear hcz16_1
       try clear hcz22_0
       try clear hcz22_1
       try clear hcz24_0
       try clear hcz24_1
       try clear hcz26_0
       try clear hcz26_1
       try clear hcz34_0
       try clear hcz34_1
       try clear hcz38_0
       try clear hcz38_1
       try clear hcz39_0
       try clear hcz39_1
       try clear hcz45_0
       try clear hcz45_1
       try clear hcz46_0
       try clear hcz46_1
       try clear hcz51_0
       try clear hcz51_1
       try clear hcz55_0
       try clear hcz55_1
       try clear hcz57_0
       try clear hcz57_1
       try clear hfz12_0
       try clear hfz12_1
       try clear hfz16_0
       try clear hfz16_1
       try clear hfz22_0
       try clear hfz22_1
       try clear hfz24_0
       try clear hfz24_1
       try clear hfz26_0
       try clear hfz26_1
       try clear hfz34_0
       try clear hfz34_1
       try clear hfz38_0
       try clear hfz38_1
       try clear hfz39_0
       try clear hfz39_1
       try clear hfz45_0
       try clear hfz45_1
       try clear hfz46_0
       try clear hfz46_1
       try clear hfz51_0
       try clear hfz51_1
       try clear hfz55_0
       try clear hfz55_1
       try clear hfz57_0
       try clear hfz57_1
       try clear p2
       try clear p6
       obtain ⟨kq, x91_57, rfl, HA, HJ57, BK131, HB⟩ := hcut
       cases kq with
       | zero => exact absurd HA.out (by simp [round_Round.j3])
       | succ kj57 =>
        have H := HA.out
        clear HA
        simp only [round_Round.j3] at H
        by_cases c60 : x91_57 = true
        ·
         subst c60
         rw [if_pos rfl] at H
         obtain ⟨⟨t146, t147⟩, A610, H⟩ := Option.bind_eq_some_iff.mp H
         (try dsimp -simprocs only at H)
         have A61 := Aside0.mk A610
         clear A610
         have H' := Aside0.mk H
         clear H
         have hcz62_0 := bc BK131 0 rfl
         have hcz62_1 := bc BK131 1 rfl
         have hfz62_0 := blk_frozen BK131.out 0
         have hfz62_1 := blk_frozen BK131.out 1
         go_wp2_with (first | ((with_reducible refine gate_callee (f := 35) rfl ?_); refine goesL_ (some 95) rfl rfl Try.func35 (by kernel_rfl) rfl #[.agg #[.int .u64 a1_0, .int .u64 a1_1], .int .i64 (wrap64 (-x10_19))] rfl ga ?_; (with_reducible refine (wide_Wide_Left.calls a1_0 a1_1 (wrap64 (-x10_19)) t146 t147 _ A61.out).mono ?_); rintro e w63 ⟨rfl, hb⟩; refine ⟨_, rfl, ?_⟩; refine ax2 (bb BK131 hb) (below_step bes hb) ?_; clear BK131; clear HB; intro BK131 HB; (try clear hb); have hcz64_0 := bc BK131 0 rfl; have hcz64_1 := bc BK131 1 rfl; have hfz64_0 := blk_frozen BK131.out 0; have hfz64_1 := blk_frozen BK131.out 1))
         go_meet
         case rel => exact ⟨_, (a3), (t146), (t147), (by first | rfl | (simp; done) | (simp [*]; done)), H', ⟨by have := HJ19.out; have := HJ57.out; first | omega | exact Nat.le_refl _⟩, ⟨bp BK131⟩, ⟨bes⟩⟩
        ·
         replace c60 := Bool.eq_false_iff.mpr c60
         subst c60
         rw [if_neg (show ¬ (false = true) by decide)] at H
         by_cases c65 : x10_19 < 0
         rotate_left
         ·
          rw [if_neg c65] at H
          have c65b0 : decide (x10_19 < 0) = false := decide_eq_false c65
          clear c65
          have H' := Aside0.mk H
          clear H
          go_wp2
          go_meet
          case rel => exact ⟨_, (a3), (a1_0), (a1_1), (by first | rfl | (simp; done) | (simp [*]; done)), H', ⟨by have := HJ19.out; have := HJ57.out; first | omega | exact Nat.le_refl _⟩, ⟨kb BK131⟩, ⟨bes⟩⟩
         rw [if_pos c65] at H
         have c65b0 : decide (x10_19 < 0) = true := decide_eq_true c65
         clear c65
         obtain ⟨⟨t148, t149⟩, A660, H⟩ := Option.bind_eq_some_iff.mp H
         (try dsimp -simprocs only at H)
         have A66 := Aside0.mk A660
         clear A660
         have H' := Aside0.mk H
         clear H
         have hcz67_0 := bc BK131 0 rfl
         have hcz67_1 := bc BK131 1 rfl
         have hfz67_0 := blk_frozen BK131.out 0
         have hfz67_1 := blk_frozen BK131.out 1
         go_wp2_with (first | ((with_reducible refine gate_callee (f := 35) rfl ?_); refine goesL_ (some 101) rfl rfl Try.func35 (by kernel_rfl) rfl #[.agg #[.int .u64 a1_0, .int .u64 a1_1], .int .i64 (wrap64 (-x10_19))] rfl ga ?_; (with_reducible refine (wide_Wide_Left.calls a1_0 a1_1 (wrap64 (-x10_19)) t148 t149 _ A66.out).mono ?_); rintro e w68 ⟨rfl, hb⟩; refine ⟨_, rfl, ?_⟩; refine ax2 (bb BK131 hb) (below_step bes hb) ?_; clear BK131; clear HB; intro BK131 HB; (try clear hb); have hcz69_0 := bc BK131 0 rfl; have hcz69_1 := bc BK131 1 rfl; have hfz69_0 := blk_frozen BK131.out 0; have hfz69_1 := blk_frozen BK131.out 1))
         go_meet
         case rel => exact ⟨_, (a3), (t148), (t149), (by first | rfl | (simp; done) | (simp [*]; done)), H', ⟨by have := HJ19.out; have := HJ57.out; first | omega | exact Nat.le_refl _⟩, ⟨bp BK131⟩, ⟨bes⟩⟩
    case rest =>
     clear HC29
     try clear c2
     try clear p2
     try clear c3
     try clear c4
     try clear c5
     try clear c6
     try clear p6
     try clear c8
     try clear c9
     try clear c28
     try clear c28b0
     try clear c30
     try clear c30b0
     try clear c34
     try clear c35
     try clear c36
     try clear c37
     try clear c41
     try clear c42
     try clear c44
     try clear c46
     try clear c47
     try clear c48
     try clear c49
     try clear c50
     try clear c52
     try clear c53
     try clear c54
     try clear c59
     try clear c59b0
     try clear c60
     try clear p64
     try clear c65
     try clear c65b0
     try clear hcz12_0
     try clear hcz12_1
     try clear hcz16_0
     try clear hcz16_1
     try clear hcz22_0
     try clear hcz22_1
     try clear hcz24_0
     try clear hcz24_1
     try clear hcz26_0
     try clear hcz26_1
     try clear hcz34_0
     try clear hcz34_1
     try clear hcz38_0
     try clear hcz38_1
     try clear hcz39_0
     try clear hcz39_1
     try clear hcz45_0
     try clear hcz45_1
     try clear hcz46_0
     try clear hcz46_1
     try clear hcz51_0
     try clear hcz51_1
     try clear hcz55_0
     try clear hcz55_1
     try clear hcz57_0
     try clear hcz57_1
     try clear hcz62_0
     try clear hcz62_1
     try clear hcz64_0
     try clear hcz64_1
     try clear hcz67_0
     try clear hcz67_1
     try clear hcz69_0
     try clear hcz69_1
     try clear hfz12_0
     try clear hfz12_1
     try clear hfz16_0
     try clear hfz16_1
     try clear hfz22_0
     try clear hfz22_1
     try clear hfz24_0
     try clear hfz24_1
     try clear hfz26_0
     try clear hfz26_1
     try clear hfz34_0
     try clear hfz34_1
     try clear hfz38_0
     try clear hfz38_1
     try clear hfz39_0
     try clear hfz39_1
     try clear hfz45_0
     try clear hfz45_1
     try clear hfz46_0
     try clear hfz46_1
     try clear hfz51_0
     try clear hfz51_1
     try clear hfz55_0
     try clear hfz55_1
     try clear hfz57_0
     try clear hfz57_1
     try clear hfz62_0
     try clear hfz62_1
     try clear hfz64_0
     try clear hfz64_1
     try clear hfz67_0
     try clear hfz67_1
     try clear hfz69_0
     try clear hfz69_1
     try clear p2
     try clear p6
     obtain ⟨kq, x12_28, x132000_28, x132001_28, rfl, HA, HJ28, BK131, HB⟩ := hcut
     cases kq with
     | zero => exact absurd HA.out (by simp [round_Round.j4])
     | succ kj28 =>
      have H := HA.out
      clear HA
      simp only [round_Round.j4] at H
      have HC70 := Aside0.mk H
      clear H
      have hcz71_0 := bc BK131 0 rfl
      have hcz71_1 := bc BK131 1 rfl
      have hfz71_0 := blk_frozen BK131.out 0
      have hfz71_1 := blk_frozen BK131.out 1
      go_upto_if 108 with (fail)
      go_cut [2, 16] (fun v2 v16 wc => ∃ (kq : Nat) (x2_69 : Int) (x16_69 : Int), v2 = .int .i64 x2_69 ∧ v16 = .int .u64 x16_69 ∧ Aside0 (round_Round.j5 kq a0 x2_69 x11_19 x12_28 x16_69 = some (r1, r2)) ∧ Aside0 (kq ≤ kj28) ∧ Aside0 (wc.heap[gb131]? = some (.cells #[.int .u64 x132000_28, .int .u64 x132001_28] 67 (0, 0))) ∧ Aside0 (Below w.heap.size w wc))
      case first =>
       have H := HC70.out
       clear HC70
       by_cases c72 : x132001_28 = 9007199254740992
       rotate_left
       ·
        rw [if_neg c72] at H
        have c72b0 : (x132001_28 == 9007199254740992) = false := beq_eq_false_iff_ne.mpr c72
        have c72b1 : (x132001_28 != 9007199254740992) = true := bne_iff_ne.mpr c72
        (first | rw [c72b0] | (simp only [i64_w, i32_w]; rw [c72b0]) | skip)
        have H' := Aside0.mk H
        clear H
        go_wp2
        go_meet
        case rel => exact ⟨_, (wrap64 (ji6 + x10_19)), (x132001_28), (by first | rfl | (simp; done) | (simp only [← hji6] <;> (first | rfl | simp)) | (simp [*]; done)), (by first | rfl | (simp; done) | (simp [*]; done)), H', ⟨by have := HJ19.out; have := HJ28.out; first | omega | exact Nat.le_refl _⟩, ⟨kb BK131⟩, ⟨bes⟩⟩
       rw [if_pos c72] at H
       have c72b0 : (x132001_28 == 9007199254740992) = true := beq_iff_eq.mpr c72
       have c72b1 : (x132001_28 != 9007199254740992) = false := bne_eq_false_iff_eq.mpr c72
       clear c72
       (first | rw [c72b0] | (simp only [i64_w, i32_w]; rw [c72b0]) | skip)
       have H' := Aside0.mk H
       clear H
       go_wp2
       go_meet
       case rel => exact ⟨_, (wrap64 ((wrap64 (ji6 + x10_19)) + 1)), (x132001_28 / 2), (by first | rfl | (simp; done) | (simp only [← hji6] <;> (first | rfl | simp)) | (simp [*]; done)), (by first | rfl | (simp; done) | (simp [*]; done)), H', ⟨by have := HJ19.out; have := HJ28.out; first | omega | exact Nat.le_refl _⟩, ⟨kb BK131⟩, ⟨bes⟩⟩
      case rest =>
       clear HC70
       try clear c2
       try clear p2
       try clear c3
       try clear c4
       try clear c5
       try clear c6
       try clear p6
       try clear c7
       try clear c8
       try clear c9
       try clear c28
       try clear c28b0
       try clear c30
       try clear c30b0
       try clear c34
       try clear c35
       try clear c36
       try clear c37
       try clear c41
       try clear c42
       try clear c44
       try clear c46
       try clear c47
       try clear c48
       try clear c49
       try clear c50
       try clear c52
       try clear c53
       try clear c54
       try clear c59
       try clear c59b0
       try clear c60
       try clear p64
       try clear c65
       try clear c65b0
       try clear c72
       try clear c72b0
       try clear c72b1
       try clear hcz12_0
       try clear hcz12_1
       try clear hcz16_0
       try clear hcz16_1
       try clear hcz22_0
       try clear hcz22_1
       try clear hcz24_0
       try clear hcz24_1
       try clear hcz26_0
       try clear hcz26_1
       try clear hcz34_0
       try clear hcz34_1
       try clear hcz38_0
       try clear hcz38_1
       try clear hcz39_0
       try clear hcz39_1
       try clear hcz45_0
       try clear hcz45_1
       try clear hcz46_0
       try clear hcz46_1
       try clear hcz51_0
       try clear hcz51_1
       try clear hcz55_0
       try clear hcz55_1
       try clear hcz57_0
       try clear hcz57_1
       try clear hcz62_0
       try clear hcz62_1
       try clear hcz64_0
       try clear hcz64_1
       try clear hcz67_0
       try clear hcz67_1
       try clear hcz69_0
       try clear hcz69_1
       try clear hcz71_0
       try clear hcz71_1
       try clear hfz12_0
       try clear hfz12_1
       try clear hfz16_0
       try clear hfz16_1
       try clear hfz22_0
       try clear hfz22_1
       try clear hfz24_0
       try clear hfz24_1
       try clear hfz26_0
       try clear hfz26_1
       try clear hfz34_0
       try clear hfz34_1
       try clear hfz38_0
       try clear hfz38_1
       try clear hfz39_0
       try clear hfz39_1
       try clear hfz45_0
       try clear hfz45_1
       try clear hfz46_0
       try clear hfz46_1
       try clear hfz51_0
       try clear hfz51_1
       try clear hfz55_0
       try clear hfz55_1
       try clear hfz57_0
       try clear hfz57_1
       try clear hfz62_0
       try clear hfz62_1
       try clear hfz64_0
       try clear hfz64_1
       try clear hfz67_0
       try clear hfz67_1
       try clear hfz69_0
       try clear hfz69_1
       try clear hfz71_0
       try clear hfz71_1
       try clear p2
       try clear p6
       try clear p64
       obtain ⟨kq, x2_69, x16_69, rfl, rfl, HA, HJ69, BK131, HB⟩ := hcut
       cases kq with
       | zero => exact absurd HA.out (by simp [round_Round.j5])
       | succ kj69 =>
        have H := HA.out
        clear HA
        simp only [round_Round.j5] at H
        have HC73 := Aside0.mk H
        clear H
        go_upto_if 113 with (fail)
        go_cut [17] (fun v17 wc => ∃ (kq : Nat) (x17_72 : Int), v17 = .int .u8 x17_72 ∧ Aside0 (round_Round.j6 kq a0 x2_69 x16_69 x17_72 = some (r1, r2)) ∧ Aside0 (kq ≤ kj69) ∧ Aside0 (wc.heap[gb131]? = some (.cells #[.int .u64 x132000_28, .int .u64 x132001_28] 67 (0, 0))) ∧ Aside0 (Below w.heap.size w wc))
        case first =>
         have H := HC73.out
         clear HC73
         by_cases c74 : x12_28 = true
         rotate_left
         ·
          replace c74 := Bool.eq_false_iff.mpr c74
          subst c74
          rw [if_neg (show ¬ (false = true) by decide)] at H
          have H' := Aside0.mk H
          clear H
          go_wp2
          go_meet
          case rel => exact ⟨_, (0), (by first | rfl | (simp; done) | (simp [*]; done)), H', ⟨by have := HJ19.out; have := HJ28.out; have := HJ69.out; first | omega | exact Nat.le_refl _⟩, ⟨kb BK131⟩, ⟨bes⟩⟩
         subst c74
         rw [if_pos rfl] at H
         by_cases c75 : x11_19 = true
         ·
          subst c75
          rw [if_pos rfl] at H
          have H' := Aside0.mk H
          clear H
          go_wp2
          go_meet
          case rel => exact ⟨_, (Go.bits .or .u8 (Go.bits .or .u8 0 1) 2), (by first | rfl | (simp; done) | (simp [*]; done)), H', ⟨by have := HJ19.out; have := HJ28.out; have := HJ69.out; first | omega | exact Nat.le_refl _⟩, ⟨kb BK131⟩, ⟨bes⟩⟩
         ·
          replace c75 := Bool.eq_false_iff.mpr c75
          subst c75
          rw [if_neg (show ¬ (false = true) by decide)] at H
          have H' := Aside0.mk H
          clear H
          go_wp2
          go_meet
          case rel => exact ⟨_, (Go.bits .or .u8 0 1), (by first | rfl | (simp; done) | (simp [*]; done)), H', ⟨by have := HJ19.out; have := HJ28.out; have := HJ69.out; first | omega | exact Nat.le_refl _⟩, ⟨kb BK131⟩, ⟨bes⟩⟩
        case rest =>
         clear HC73
         try clear c2
         try clear p2
         try clear c3
         try clear c4
         try clear c5
         try clear c6
         try clear p6
         try clear c7
         try clear c8
         try clear c9
         try clear c28
         try clear c28b0
         try clear c30
         try clear c30b0
         try clear c34
         try clear c35
         try clear c36
         try clear c37
         try clear c41
         try clear c42
         try clear c44
         try clear c46
         try clear c47
         try clear c48
         try clear c49
         try clear c50
         try clear c52
         try clear c53
         try clear c54
         try clear c59
         try clear c59b0
         try clear c60
         try clear p64
         try clear c65
         try clear c65b0
         try clear c72
         try clear c72b0
         try clear c72b1
         try clear c74
         try clear c75
         try clear hcz12_0
         try clear hcz12_1
         try clear hcz16_0
         try clear hcz16_1
         try clear hcz22_0
         try clear hcz22_1
         try clear hcz24_0
         try clear hcz24_1
         try clear hcz26_0
         try clear hcz26_1
         try clear hcz34_0
         try clear hcz34_1
         try clear hcz38_0
         try clear hcz38_1
         try clear hcz39_0
         try clear hcz39_1
         try clear hcz45_0
         try clear hcz45_1
         try clear hcz46_0
         try clear hcz46_1
         try clear hcz51_0
         try clear hcz51_1
         try clear hcz55_0
         try clear hcz55_1
         try clear hcz57_0
         try clear hcz57_1
         try clear hcz62_0
         try clear hcz62_1
         try clear hcz64_0
         try clear hcz64_1
         try clear hcz67_0
         try clear hcz67_1
         try clear hcz69_0
         try clear hcz69_1
         try clear hcz71_0
         try clear hcz71_1
         try clear hfz12_0
         try clear hfz12_1
         try clear hfz16_0
         try clear hfz16_1
         try clear hfz22_0
         try clear hfz22_1
         try clear hfz24_0
         try clear hfz24_1
         try clear hfz26_0
         try clear hfz26_1
         try clear hfz34_0
         try clear hfz34_1
         try clear hfz38_0
         try clear hfz38_1
         try clear hfz39_0
         try clear hfz39_1
         try clear hfz45_0
         try clear hfz45_1
         try clear hfz46_0
         try clear hfz46_1
         try clear hfz51_0
         try clear hfz51_1
         try clear hfz55_0
         try clear hfz55_1
         try clear hfz57_0
         try clear hfz57_1
         try clear hfz62_0
         try clear hfz62_1
         try clear hfz64_0
         try clear hfz64_1
         try clear hfz67_0
         try clear hfz67_1
         try clear hfz69_0
         try clear hfz69_1
         try clear hfz71_0
         try clear hfz71_1
         try clear p2
         try clear p6
         try clear p64
         obtain ⟨kq, x17_72, rfl, HA, HJ72, BK131, HB⟩ := hcut
         cases kq with
         | zero => exact absurd HA.out (by simp [round_Round.j6])
         | succ kj72 =>
          have H := HA.out
          clear HA
          simp only [round_Round.j6] at H
          by_cases c76 : x16_69 < 4503599627370496
          ·
           rw [if_pos c76] at H
           have c76b0 : decide (x16_69 < 4503599627370496) = true := decide_eq_true c76
           clear c76
           obtain ⟨t150, A770, H⟩ := Option.bind_eq_some_iff.mp H
           (try dsimp -simprocs only at H)
           have A77 := Aside0.mk A770
           clear A770
           simp only [Option.some.injEq, Prod.mk.injEq] at H
           obtain ⟨rfl, rfl⟩ := H
           go_wp2_with (first | ((with_reducible refine gate_callee (f := 46) rfl ?_); refine goesL_ (some 124) rfl rfl Try.func46 (by kernel_rfl) rfl #[.bool a0, .int .i64 0, .int .u64 x16_69] rfl ga ?_; (with_reducible refine (word_Make.calls a0 0 x16_69 t150 _ A77.out).mono ?_); rintro e w' ⟨rfl, ⟨nd, rfl⟩⟩; refine ⟨_, rfl, ?_⟩))
           go_ret2
           exact ⟨by first | rfl | (simp [errW_none, errW_some] <;> rfl) | (simp only [← hji5, ← hji6]; first | rfl | (simp [errW_none, errW_some] <;> rfl)) | (simp [*, errW_none, errW_some] <;> rfl), bes⟩
          ·
           rw [if_neg c76] at H
           have c76b0 : decide (x16_69 < 4503599627370496) = false := decide_eq_false c76
           clear c76
           by_cases c78 : (wrap64 (x2_69 + 1075)) ≥ 2047
           ·
            rw [if_pos c78] at H
            have c78b0 : decide (2047 ≤ (wrap64 (x2_69 + 1075))) = true := decide_eq_true c78
            clear c78
            obtain ⟨t151, A790, H⟩ := Option.bind_eq_some_iff.mp H
            (try dsimp -simprocs only at H)
            have A79 := Aside0.mk A790
            clear A790
            simp only [Option.some.injEq, Prod.mk.injEq] at H
            obtain ⟨rfl, rfl⟩ := H
            go_wp2_with (first | ((with_reducible refine gate_callee (f := 46) rfl ?_); refine goesL_ (some 131) rfl rfl Try.func46 (by kernel_rfl) rfl #[.bool a0, .int .i64 2047, .int .u64 0] rfl ga ?_; (with_reducible refine (word_Make.calls a0 2047 0 t151 _ A79.out).mono ?_); rintro e w' ⟨rfl, ⟨nd, rfl⟩⟩; refine ⟨_, rfl, ?_⟩))
            go_ret2
            exact ⟨by first | rfl | (simp [errW_none, errW_some] <;> rfl) | (simp only [← hji5, ← hji6]; first | rfl | (simp [errW_none, errW_some] <;> rfl)) | (simp [*, errW_none, errW_some] <;> rfl), bes⟩
           ·
            rw [if_neg c78] at H
            have c78b0 : decide (2047 ≤ (wrap64 (x2_69 + 1075))) = false := decide_eq_false c78
            clear c78
            obtain ⟨t152, A800, H⟩ := Option.bind_eq_some_iff.mp H
            (try dsimp -simprocs only at H)
            have A80 := Aside0.mk A800
            clear A800
            simp only [Option.some.injEq, Prod.mk.injEq] at H
            obtain ⟨rfl, rfl⟩ := H
            go_wp2_with (first | ((with_reducible refine gate_callee (f := 46) rfl ?_); refine goesL_ (some 139) rfl rfl Try.func46 (by kernel_rfl) rfl #[.bool a0, .int .i64 (wrap64 (x2_69 + 1075)), .int .u64 x16_69] rfl ga ?_; (with_reducible refine (word_Make.calls a0 (wrap64 (x2_69 + 1075)) x16_69 t152 _ A80.out).mono ?_); rintro e w' ⟨rfl, ⟨nd, rfl⟩⟩; refine ⟨_, rfl, ?_⟩))
            go_ret2
            exact ⟨by first | rfl | (simp [errW_none, errW_some] <;> rfl) | (simp only [← hji5, ← hji6]; first | rfl | (simp [errW_none, errW_some] <;> rfl)) | (simp [*, errW_none, errW_some] <;> rfl), bes⟩

end Go.Proofs.Ytnjobojkoaknpaa.F
