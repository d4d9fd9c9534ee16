-- Written by a program of this seat's session (mkprint), out of the translation.
import Derived.Test.YtfogmgcpajndcaaShort
import Derived.Test.YtfogmgcpajndcaaFx0
import Derived.Test.YtfogmgcpajndcaaFx2
import Derived.Test.YtfogmgcpajndcaaFx6
import Derived.Test.YtfogmgcpajndcaaFx8
namespace Go.Proofs.Ytfogmgcpajndcaa.F
open Go.RowKit Go.Proofs.YtfogmgcpajndcaaW.PrintWords Go.Proofs.YtfogmgcpajndcaaW.PrintLast Go.Proofs.YtfogmgcpajndcaaW.PrintMore
attribute [local go_sem] max2_int min2_int max_two min_two max_three min_three max_four min_four   -- for this text's walks alone
set_option linter.unusedVariables false
set_option linter.unusedSimpArgs false

/-! ### soft_Calc_Mul_nil: function 18 -/
def soft_Calc_Mul_nil.f (k : Nat)  (a1 : Int) (a2 : Int) : Option (Int) := (soft_Mul.f k a1 a2).bind fun bt316 => ((soft_Calc_note_nil.f bt316.1 bt316.2).bind fun t318 => (some t318))
theorem soft_Calc_Mul_nil.mono : ∀ a0 a1 k, LeO (soft_Calc_Mul_nil.f k a0 a1) (soft_Calc_Mul_nil.f (k + 1) a0 a1) := by
 intro a0 a1 k
 unfold soft_Calc_Mul_nil.f
 repeat' with_reducible first | apply soft_Mul.mono | exact LeO.refl _ | exact LeO.none _ | refine LeO.ite ?_ ?_ | refine LeO.bind ?_ (fun _ => ?_)
set_option maxHeartbeats 8000000 in
set_option maxRecDepth 100000 in
theorem soft_Calc_Mul_nil.calls (k : Nat)  (a1 : Int) (a2 : Int) (r : Int) (w : World) (h : soft_Calc_Mul_nil.f k a1 a2 = some r) :
  Calls Try.prog 18 #[.pointer none, .int .u64 a1, .int .u64 a2] w fun e w' => e = .returned (.int .u64 r) ∧ Below w.heap.size w w' := by
 have HB := Aside0.mk (Below.refl w.heap.size w)
 have H : ((soft_Mul.f k a1 a2).bind fun bt316 => ((soft_Calc_note_nil.f bt316.1 bt316.2).bind fun t318 => (some t318))) = some r := h
 clear h
 obtain ⟨⟨t316, t317⟩, A40, H⟩ := Option.bind_eq_some_iff.mp H
 (try dsimp -simprocs only at H)
 have A4 := Aside0.mk A40
 clear A40
 obtain ⟨t318, A50, H⟩ := Option.bind_eq_some_iff.mp H
 (try dsimp -simprocs only at H)
 have A5 := Aside0.mk A50
 clear A50
 obtain rfl := Option.some.inj H
 go_enter Try.func18, Try.ntmps18
 go_wp2_with (first | ((with_reducible refine gate_callee (f := 29) rfl ?_); refine goesL_ (some 10) rfl rfl Try.func29 (by kernel_rfl) rfl #[.int .u64 a1, .int .u64 a2] rfl ga ?_; (with_reducible refine (soft_Mul.calls k a1 a2 t316 t317 _ A4.out).mono ?_); rintro e w6 ⟨rfl, hb⟩; refine ⟨_, rfl, ?_⟩; refine ax1 (below_step bel hb) ?_; clear HB; intro HB; (try clear hb)) | ((with_reducible refine gate_callee (f := 28) rfl ?_); refine goesL_ (some 13) rfl rfl Try.func28 (by kernel_rfl) rfl #[.pointer none, .int .u64 t316, .int .u8 t317] rfl ga ?_; (with_reducible refine (soft_Calc_note_nil.calls  t316 t317 t318 _ A5.out).mono ?_); rintro e w' ⟨rfl, ⟨nd, rfl⟩⟩; refine ⟨_, rfl, ?_⟩))
 go_ret
 exact ⟨er, bel⟩

/-! ### mul_Gemm_nil: function 8 -/
mutual
def mul_Gemm_nil.l0 : Nat → Int → Int → Int → Int → Int → List Int → Int → Int → Int → List Int → Int → Int → Int → List Int → Option (Int × Int × Int × List Int × Int)
 | 0, _, _, _, _, _, _, _, _, _, _, _, _, _, _ => none
 | k + 1, x27, x28, x342000, x342001, x342002, x342003, x343000, x343001, x343002, x343003, x352000, x352001, x352002, x352003 => if x28 < x27 then (mul_Gemm_nil.l1 k x28 x27 x28 x352001 0 x342000 x342001 x342002 x342003 x343000 x343001 x343002 x343003 x352000 x352001 x352002 x352003) else (some (x352000, x352001, x352002, x352003, 0))
def mul_Gemm_nil.l1 : Nat → Int → Int → Int → Int → Int → Int → Int → Int → List Int → Int → Int → Int → List Int → Int → Int → Int → List Int → Option (Int × Int × Int × List Int × Int)
 | 0, _, _, _, _, _, _, _, _, _, _, _, _, _, _, _, _, _ => none
 | k + 1, x10, x27, x28, x32, x33, x342000, x342001, x342002, x342003, x343000, x343001, x343002, x343003, x352000, x352001, x352002, x352003 => if x33 < x32 then (mul_Gemm_nil.l2 k x10 x33 0 x27 x28 x32 x33 x342001 0 x342000 x342001 x342002 x342003 x343000 x343001 x343002 x343003 x352000 x352001 x352002 x352003) else (mul_Gemm_nil.l0 k x27 (wrap64 (x28 + 1)) x342000 x342001 x342002 x342003 x343000 x343001 x343002 x343003 x352000 x352001 x352002 x352003)
def mul_Gemm_nil.l2 : Nat → Int → Int → Int → Int → Int → Int → Int → Int → Int → Int → Int → Int → List Int → Int → Int → Int → List Int → Int → Int → Int → List Int → Option (Int × Int × Int × List Int × Int)
 | 0, _, _, _, _, _, _, _, _, _, _, _, _, _, _, _, _, _, _, _, _, _ => none
 | k + 1, x10, x11, x12, x27, x28, x32, x33, x37, x38, x342000, x342001, x342002, x342003, x343000, x343001, x343002, x343003, x352000, x352001, x352002, x352003 => if x38 < x37 then ((mat_Matrix_At.f x342000 x342001 x342002 x342003 x10 x38).bind fun t353 => ((mat_Matrix_At.f x343000 x343001 x343002 x343003 x38 x11).bind fun t354 => ((soft_Calc_Mul_nil.f k t353 t354).bind fun t355 => ((soft_Calc_Add_nil.f k x12 t355).bind fun t356 => (mul_Gemm_nil.l2 k x10 x11 t356 x27 x28 x32 x33 x37 (wrap64 (x38 + 1)) x342000 x342001 x342002 x342003 x343000 x343001 x343002 x343003 x352000 x352001 x352002 x352003))))) else ((mat_Matrix_Set.f x352000 x352001 x352002 x352003 x10 x11 x12).bind fun t352 => (mul_Gemm_nil.l1 k x10 x27 x28 x32 (wrap64 (x33 + 1)) x342000 x342001 x342002 x342003 x343000 x343001 x343002 x343003 x352000 x352001 x352002 t352))
end
def mul_Gemm_nil.f (k : Nat)  (a1_0 : Int) (a1_1 : Int) (a1_2 : Int) (l1_3 : List Int) (a2_0 : Int) (a2_1 : Int) (a2_2 : Int) (l2_3 : List Int) : Option (Int × Int × Int × List Int × Int) := (mul_fits.f k a1_0 a1_1 a1_2 l1_3 a2_0 a2_1 a2_2 l2_3).bind fun t344 => (if t344 = 0 then ((mat_New.f a1_0 a2_1).bind fun bt345 => (mul_Gemm_nil.l0 k bt345.1 0 a1_0 a1_1 a1_2 l1_3 a2_0 a2_1 a2_2 l2_3 bt345.1 bt345.2.1 bt345.2.2.1 bt345.2.2.2)) else (some (0, 0, 0, ([] : List Int), t344)))
theorem mul_Gemm_nil.mono_l : ∀ k, (∀ y0 y1 y2 y3 y4 y5 y6 y7 y8 y9 y10 y11 y12 y13, LeO (mul_Gemm_nil.l0 k y0 y1 y2 y3 y4 y5 y6 y7 y8 y9 y10 y11 y12 y13) (mul_Gemm_nil.l0 (k + 1) y0 y1 y2 y3 y4 y5 y6 y7 y8 y9 y10 y11 y12 y13)) ∧ (∀ y0 y1 y2 y3 y4 y5 y6 y7 y8 y9 y10 y11 y12 y13 y14 y15 y16, LeO (mul_Gemm_nil.l1 k y0 y1 y2 y3 y4 y5 y6 y7 y8 y9 y10 y11 y12 y13 y14 y15 y16) (mul_Gemm_nil.l1 (k + 1) y0 y1 y2 y3 y4 y5 y6 y7 y8 y9 y10 y11 y12 y13 y14 y15 y16)) ∧ (∀ y0 y1 y2 y3 y4 y5 y6 y7 y8 y9 y10 y11 y12 y13 y14 y15 y16 y17 y18 y19 y20, LeO (mul_Gemm_nil.l2 k y0 y1 y2 y3 y4 y5 y6 y7 y8 y9 y10 y11 y12 y13 y14 y15 y16 y17 y18 y19 y20) (mul_Gemm_nil.l2 (k + 1) y0 y1 y2 y3 y4 y5 y6 y7 y8 y9 y10 y11 y12 y13 y14 y15 y16 y17 y18 y19 y20))
 | 0 => ⟨fun _ _ _ _ _ _ _ _ _ _ _ _ _ _ r h => by simp [mul_Gemm_nil.l0] at h, fun _ _ _ _ _ _ _ _ _ _ _ _ _ _ _ _ _ r h => by simp [mul_Gemm_nil.l1] at h, fun _ _ _ _ _ _ _ _ _ _ _ _ _ _ _ _ _ _ _ _ _ r h => by simp [mul_Gemm_nil.l2] at h⟩
 | k + 1 => by
  obtain ⟨ih0, ih1, ih2⟩ := mul_Gemm_nil.mono_l k
  refine ⟨?_, ?_, ?_⟩ <;> intros <;> (first | unfold mul_Gemm_nil.l0 | unfold mul_Gemm_nil.l1 | unfold mul_Gemm_nil.l2) <;>
   repeat' with_reducible first | apply ih0 | apply ih1 | apply ih2 | apply mul_fits.mono | apply soft_Calc_Add_nil.mono | apply soft_Calc_Mul_nil.mono | exact LeO.refl _ | exact LeO.none _ | refine LeO.ite ?_ ?_ | refine LeO.bind ?_ (fun _ => ?_)
theorem mul_Gemm_nil.mono : ∀ a0 a1 a2 a3 a4 a5 a6 a7 k, LeO (mul_Gemm_nil.f k a0 a1 a2 a3 a4 a5 a6 a7) (mul_Gemm_nil.f (k + 1) a0 a1 a2 a3 a4 a5 a6 a7) := by
 intro a0 a1 a2 a3 a4 a5 a6 a7 k
 obtain ⟨ih0, ih1, ih2⟩ := mul_Gemm_nil.mono_l k
 unfold mul_Gemm_nil.f
 repeat' with_reducible first | apply ih0 | apply ih1 | apply ih2 | apply mul_fits.mono | apply soft_Calc_Add_nil.mono | apply soft_Calc_Mul_nil.mono | exact LeO.refl _ | exact LeO.none _ | refine LeO.ite ?_ ?_ | refine LeO.bind ?_ (fun _ => ?_)
def mul_Gemm_nil.T15 : Bool × List (List Nat × List Nat) := (true, [([], []), ([], []), ([], []), ([], []), ([], []), ([], []), ([3, 4, 5], [3, 4, 5]), ([], []), ([], []), ([], []), ([7, 8, 9, 6], [7, 8, 9]), ([2, 6, 10, 10], [2, 6, 10]), ([0, 1, 11, 11], [0, 1, 11]), ([12, 12, 0, 1, 2, 3, 4, 5, 6, 7, 8, 9, 10, 11, 12], [1, 12])])
def mul_Gemm_nil.B15 : List Nat := [0, 0, 0, 0, 0, 0, 56, 0, 0, 0, 1016, 2044, 4095, 8191]
theorem mul_Gemm_nil.tab15 : rtab .any (opsOf Try.f8 15) = mul_Gemm_nil.T15 := by kernel_rfl
theorem mul_Gemm_nil.bits15 : waitsOk mul_Gemm_nil.T15.2 mul_Gemm_nil.B15 = true := by kernel_rfl
set_option maxHeartbeats 8000000 in
set_option maxRecDepth 100000 in
theorem mul_Gemm_nil.calls (k : Nat)  (a1_0 : Int) (a1_1 : Int) (a1_2 : Int) (A1_3 : Option Addr) (c1_3 : Nat) (l1_3 : List Int) (a2_0 : Int) (a2_1 : Int) (a2_2 : Int) (A2_3 : Option Addr) (c2_3 : Nat) (l2_3 : List Int) (r1 : Int) (r2 : Int) (r3 : Int) (r4 : List Int) (r5 : Int) (w : World) (hr1_3 : Kd.C (Kd.int .u64) w A1_3 l1_3.length l1_3) (hc1_3 : l1_3.length ≤ c1_3) (hr2_3 : Kd.C (Kd.int .u64) w A2_3 l2_3.length l2_3) (hc2_3 : l2_3.length ≤ c2_3) (h : mul_Gemm_nil.f k a1_0 a1_1 a1_2 l1_3 a2_0 a2_1 a2_2 l2_3 = some (r1, r2, r3, r4, r5)) :
  Calls Try.prog 8 #[.pointer none, .agg #[.int .i64 a1_0, .int .i64 a1_1, .int .i64 a1_2, .slice A1_3 l1_3.length c1_3], .agg #[.int .i64 a2_0, .int .i64 a2_1, .int .i64 a2_2, .slice A2_3 l2_3.length c2_3]] w fun e w' => ∃ v3_ : Value, e = .returned (.tuple #[.agg #[.int .i64 r1, .int .i64 r2, .int .i64 r3, v3_], .int .i64 r5]) ∧ Kd.R (Kd.int .u64) 33 w' w.heap.size (fun _ => True) v3_ r4 ∧ Below w.heap.size w w' := by
 have hu25 := Try.underlying25
 have HR1_3 := Aside0.mk hr1_3
 have HC1_3 := Aside0.mk hc1_3
 clear hr1_3 hc1_3
 have HR2_3 := Aside0.mk hr2_3
 have HC2_3 := Aside0.mk hc2_3
 clear hr2_3 hc2_3
 have HB := Aside0.mk (Below.refl w.heap.size w)
 have H : ((mul_fits.f k a1_0 a1_1 a1_2 l1_3 a2_0 a2_1 a2_2 l2_3).bind fun t344 => (if t344 = 0 then ((mat_New.f a1_0 a2_1).bind fun bt345 => (mul_Gemm_nil.l0 k bt345.1 0 a1_0 a1_1 a1_2 l1_3 a2_0 a2_1 a2_2 l2_3 bt345.1 bt345.2.1 bt345.2.2.1 bt345.2.2.2)) else (some (0, 0, 0, ([] : List Int), t344)))) = some (r1, r2, r3, r4, r5) := h
 clear h
 obtain ⟨t344, A40, H⟩ := Option.bind_eq_some_iff.mp H
 (try dsimp -simprocs only at H)
 have A4 := Aside0.mk A40
 clear A40
 by_cases c5 : t344 = 0
 rotate_left
 ·
  rw [if_neg c5] at H
  have c5b0 : (t344 == 0) = false := beq_eq_false_iff_ne.mpr c5
  have c5b1 : (t344 != 0) = true := bne_iff_ne.mpr c5
  simp only [Option.some.injEq, Prod.mk.injEq] at H
  obtain ⟨rfl, rfl, rfl, rfl, rfl⟩ := H
  go_enter Try.func8, Try.ntmps8
  go_wp2_with (first | ((with_reducible refine gate_dst (N := 4) rfl ?_); refine gbox (N := 4) (cs := #[.int .i64 a1_0, .int .i64 a1_1, .int .i64 a1_2, .slice A1_3 l1_3.length c1_3]) (t := 25) ?_; intro gb341 hg w60 hbox hb; refine ax4 (below_step bel hb) hbox ((ge hg : w.heap.size ≤ gb341)) ((ge hg : w.heap.size ≤ gb341)) ?_; clear HB; intro HB BK341 GW341 GE341; clear hb hbox hg) | ((with_reducible refine gate_dst (N := 5) rfl ?_); refine gbox (N := 5) (cs := #[.int .i64 a2_0, .int .i64 a2_1, .int .i64 a2_2, .slice A2_3 l2_3.length c2_3]) (t := 25) ?_; intro gb342 hg w61 hbox hb; refine ax7 (bb BK341 hb) (below_step bes hb) hbox ((ge hg : w.heap.size ≤ gb342)) ((ge hg : w.heap.size ≤ gb342)) (nl hg BK341) (ng hg BK341) ?_; clear BK341; clear HB; intro BK341 HB BK342 GW342 GE342 NB341_342 NB342_341; clear hb hbox hg) | ((with_reducible refine gate_dst (N := 6) rfl ?_); refine gbox (N := 6) (cs := #[.int .i64 0, .int .i64 0, .int .i64 0, .slice none 0 0]) (t := 25) ?_; intro gb343 hg w62 hbox hb; refine ax10 (bb BK341 hb) (bb BK342 hb) (below_step bes hb) hbox ((ge hg : w.heap.size ≤ gb343)) ((ge hg : w.heap.size ≤ gb343)) (nl hg BK341) (ng hg BK341) (nl hg BK342) (ng hg BK342) ?_; clear BK341; clear BK342; clear HB; intro BK341 BK342 HB BK343 GW343 GE343 NB341_343 NB343_341 NB342_343 NB343_342; clear hb hbox hg; have hnb63 := NB341_342.out; have hnc63 := NB342_341.out; have hnb64 := NB341_343.out; have hnc64 := NB343_341.out; have hcz65_0 := bc BK341 0 rfl; have hcz65_1 := bc BK341 1 rfl; have hcz65_2 := bc BK341 2 rfl; have hcz65_3 := bc BK341 3 rfl; have hfz65_0 := blk_frozen BK341.out 0; have hfz65_1 := blk_frozen BK341.out 1; have hfz65_2 := blk_frozen BK341.out 2; have hfz65_3 := blk_frozen BK341.out 3; have hnb66 := NB342_343.out; have hnc66 := NB343_342.out; have hcz67_0 := bc BK342 0 rfl; have hcz67_1 := bc BK342 1 rfl; have hcz67_2 := bc BK342 2 rfl; have hcz67_3 := bc BK342 3 rfl; have hfz67_0 := blk_frozen BK342.out 0; have hfz67_1 := blk_frozen BK342.out 1; have hfz67_2 := blk_frozen BK342.out 2; have hfz67_3 := blk_frozen BK342.out 3) | ((with_reducible refine gate_callee (f := 24) rfl ?_); refine goesL_ (some 16) rfl rfl Try.func24 (by kernel_rfl) rfl #[.agg #[.int .i64 a1_0, .int .i64 a1_1, .int .i64 a1_2, .slice A1_3 l1_3.length c1_3], .agg #[.int .i64 a2_0, .int .i64 a2_1, .int .i64 a2_2, .slice A2_3 l2_3.length c2_3]] rfl ga ?_; (with_reducible refine (mul_fits.calls k a1_0 a1_1 a1_2 _ _ l1_3 a2_0 a2_1 a2_2 _ _ l2_3 t344 _ ?side1 ?side2 ?side3 ?side4 A4.out).mono ?_); (case side1 => repeat (first | exact (Kd.C_below HR1_3.out HB.out) | (with_reducible refine Kd.C_alloc ?_ _) | (with_reducible refine Kd.C_drewN ?_ _) | (with_reducible refine Kd.C_drew ?_))); (case side2 => exact HC1_3.out); (case side3 => repeat (first | exact (Kd.C_below HR2_3.out HB.out) | (with_reducible refine Kd.C_alloc ?_ _) | (with_reducible refine Kd.C_drewN ?_ _) | (with_reducible refine Kd.C_drew ?_))); (case side4 => exact HC2_3.out); rintro e w68 ⟨rfl, hb⟩; refine ⟨_, rfl, ?_⟩; refine ax4 (bb BK341 hb) (bb BK342 hb) (bb BK343 hb) (below_step bes hb) ?_; clear BK341; clear BK342; clear BK343; clear HB; intro BK341 BK342 BK343 HB; (try clear hb); have hcz69_0 := bc BK343 0 rfl; have hcz69_1 := bc BK343 1 rfl; have hcz69_2 := bc BK343 2 rfl; have hcz69_3 := bc BK343 3 rfl; have hfz69_0 := blk_frozen BK343.out 0; have hfz69_1 := blk_frozen BK343.out 1; have hfz69_2 := blk_frozen BK343.out 2; have hfz69_3 := blk_frozen BK343.out 3))
  refine bodyPost_ret (results_ct rfl _ _ gb343 25 #[.int .i64 0, .int .i64 0, .int .i64 0, .slice none 0 0] (0, 0) _ rfl (bp BK343) Try.underlying25 rfl (by kernel_rfl)) rfl ?_
  exact ⟨_, er, by first | exact Kd.R_nil _ _ _ _ _ | exact Kd.N_nil _ _ _ _ _ | exact Kd.V_nil _ _ _ _ _ | exact Kd.Q_nil _ _ _ _ _ | exact Kd.S_nil _ _ _ _ _, bes⟩

 rw [if_pos c5] at H
 have c5b0 : (t344 == 0) = true := beq_iff_eq.mpr c5
 have c5b1 : (t344 != 0) = false := bne_eq_false_iff_eq.mpr c5
 clear c5
 obtain ⟨⟨t345, t346, t347, t348⟩, A60, H⟩ := Option.bind_eq_some_iff.mp H
 (try dsimp -simprocs only at H)
 have A6 := Aside0.mk A60
 clear A60
 have H' := Aside0.mk H
 clear H
 go_enter Try.func8, Try.ntmps8
 go_wp2_with (first | ((with_reducible refine gate_dst (N := 4) rfl ?_); refine gbox (N := 4) (cs := #[.int .i64 a1_0, .int .i64 a1_1, .int .i64 a1_2, .slice A1_3 l1_3.length c1_3]) (t := 25) ?_; intro gb341 hg w7 hbox hb; refine ax4 (below_step bel hb) hbox ((ge hg : w.heap.size ≤ gb341)) ((ge hg : w.heap.size ≤ gb341)) ?_; clear HB; intro HB BK341 GW341 GE341; clear hb hbox hg) | ((with_reducible refine gate_dst (N := 5) rfl ?_); refine gbox (N := 5) (cs := #[.int .i64 a2_0, .int .i64 a2_1, .int .i64 a2_2, .slice A2_3 l2_3.length c2_3]) (t := 25) ?_; intro gb342 hg w8 hbox hb; refine ax7 (bb BK341 hb) (below_step bes hb) hbox ((ge hg : w.heap.size ≤ gb342)) ((ge hg : w.heap.size ≤ gb342)) (nl hg BK341) (ng hg BK341) ?_; clear BK341; clear HB; intro BK341 HB BK342 GW342 GE342 NB341_342 NB342_341; clear hb hbox hg) | ((with_reducible refine gate_dst (N := 6) rfl ?_); refine gbox (N := 6) (cs := #[.int .i64 0, .int .i64 0, .int .i64 0, .slice none 0 0]) (t := 25) ?_; intro gb343 hg w9 hbox hb; refine ax10 (bb BK341 hb) (bb BK342 hb) (below_step bes hb) hbox ((ge hg : w.heap.size ≤ gb343)) ((ge hg : w.heap.size ≤ gb343)) (nl hg BK341) (ng hg BK341) (nl hg BK342) (ng hg BK342) ?_; clear BK341; clear BK342; clear HB; intro BK341 BK342 HB BK343 GW343 GE343 NB341_343 NB343_341 NB342_343 NB343_342; clear hb hbox hg; have hnb10 := NB341_342.out; have hnc10 := NB342_341.out; have hnb11 := NB341_343.out; have hnc11 := NB343_341.out; have hcz12_0 := bc BK341 0 rfl; have hcz12_1 := bc BK341 1 rfl; have hcz12_2 := bc BK341 2 rfl; have hcz12_3 := bc BK341 3 rfl; have hfz12_0 := blk_frozen BK341.out 0; have hfz12_1 := blk_frozen BK341.out 1; have hfz12_2 := blk_frozen BK341.out 2; have hfz12_3 := blk_frozen BK341.out 3; have hnb13 := NB342_343.out; have hnc13 := NB343_342.out; have hcz14_0 := bc BK342 0 rfl; have hcz14_1 := bc BK342 1 rfl; have hcz14_2 := bc BK342 2 rfl; have hcz14_3 := bc BK342 3 rfl; have hfz14_0 := blk_frozen BK342.out 0; have hfz14_1 := blk_frozen BK342.out 1; have hfz14_2 := blk_frozen BK342.out 2; have hfz14_3 := blk_frozen BK342.out 3) | ((with_reducible refine gate_callee (f := 24) rfl ?_); refine goesL_ (some 16) rfl rfl Try.func24 (by kernel_rfl) rfl #[.agg #[.int .i64 a1_0, .int .i64 a1_1, .int .i64 a1_2, .slice A1_3 l1_3.length c1_3], .agg #[.int .i64 a2_0, .int .i64 a2_1, .int .i64 a2_2, .slice A2_3 l2_3.length c2_3]] rfl ga ?_; (with_reducible refine (mul_fits.calls k a1_0 a1_1 a1_2 _ _ l1_3 a2_0 a2_1 a2_2 _ _ l2_3 t344 _ ?side1 ?side2 ?side3 ?side4 A4.out).mono ?_); (case side1 => repeat (first | exact (Kd.C_below HR1_3.out HB.out) | (with_reducible refine Kd.C_alloc ?_ _) | (with_reducible refine Kd.C_drewN ?_ _) | (with_reducible refine Kd.C_drew ?_))); (case side2 => exact HC1_3.out); (case side3 => repeat (first | exact (Kd.C_below HR2_3.out HB.out) | (with_reducible refine Kd.C_alloc ?_ _) | (with_reducible refine Kd.C_drewN ?_ _) | (with_reducible refine Kd.C_drew ?_))); (case side4 => exact HC2_3.out); rintro e w15 ⟨rfl, hb⟩; refine ⟨_, rfl, ?_⟩; refine ax4 (bb BK341 hb) (bb BK342 hb) (bb BK343 hb) (below_step bes hb) ?_; clear BK341; clear BK342; clear BK343; clear HB; intro BK341 BK342 BK343 HB; (try clear hb); have hcz16_0 := bc BK341 0 rfl; have hcz16_1 := bc BK341 1 rfl; have hcz16_2 := bc BK341 2 rfl; have hcz16_3 := bc BK341 3 rfl; have hfz16_0 := blk_frozen BK341.out 0; have hfz16_1 := blk_frozen BK341.out 1; have hfz16_2 := blk_frozen BK341.out 2; have hfz16_3 := blk_frozen BK341.out 3; have hcz17_0 := bc BK342 0 rfl; have hcz17_1 := bc BK342 1 rfl; have hcz17_2 := bc BK342 2 rfl; have hcz17_3 := bc BK342 3 rfl; have hfz17_0 := blk_frozen BK342.out 0; have hfz17_1 := blk_frozen BK342.out 1; have hfz17_2 := blk_frozen BK342.out 2; have hfz17_3 := blk_frozen BK342.out 3) | ((with_reducible refine gate_callee (f := 20) rfl ?_); refine goesL_ (some 25) rfl rfl Try.func20 (by kernel_rfl) rfl #[.int .i64 a1_0, .int .i64 a2_1] rfl ga ?_; (with_reducible refine (mat_New.calls a1_0 a2_1 t345 t346 t347 t348 _ A6.out).mono ?_); rintro e w18 ⟨v349, rfl, ho0, hb⟩; refine ⟨_, rfl, ?_⟩; refine ax5 (Kd.R_lower ho0 (below_size bes)) (bb BK341 hb) (bb BK342 hb) (bb BK343 hb) (below_step bes hb) ?_; clear BK341; clear BK342; clear BK343; clear HB; intro HO350 BK341 BK342 BK343 HB; (try clear hb); (try clear ho0)) | ((with_reducible refine gate_dst (N := 9) rfl ?_); refine gbox (N := 9) (cs := #[.int .i64 0, .int .i64 0, .int .i64 0, .slice none 0 0]) (t := 25) ?_; intro gb351 hg w19 hbox hb; refine ax14 (Kd.R_below (kr HO350) hb) (bb BK341 hb) (bb BK342 hb) (bb BK343 hb) (below_step bes hb) hbox ((ge hg : w.heap.size ≤ gb351)) ((ge hg : w.heap.size ≤ gb351)) (nl hg BK341) (ng hg BK341) (nl hg BK342) (ng hg BK342) (nl hg BK343) (ng hg BK343) ?_; clear HO350; clear BK341; clear BK342; clear BK343; clear HB; intro HO350 BK341 BK342 BK343 HB BK351 GW351 GE351 NB341_351 NB351_341 NB342_351 NB351_342 NB343_351 NB351_343; clear hb hbox hg; have hnb20 := NB351_341.out; have hnc20 := NB341_351.out; have hnb21 := NB351_342.out; have hnc21 := NB342_351.out; have hnb22 := NB351_343.out; have hnc22 := NB343_351.out; have hcz23_0 := bc BK351 0 rfl; have hcz23_1 := bc BK351 1 rfl; have hcz23_2 := bc BK351 2 rfl; have hcz23_3 := bc BK351 3 rfl; have hfz23_0 := blk_frozen BK351.out 0; have hfz23_1 := blk_frozen BK351.out 1; have hfz23_2 := blk_frozen BK351.out 2; have hfz23_3 := blk_frozen BK351.out 3; obtain ⟨Ao24, co24, eo24⟩ := Kd.R_slice HO350.out; subst eo24))
 go_loopg [28] k (fun kq v28 w' => ∃ (x28_1 : Int) (x352003_1 : List Int) (u352003 : Value), v28 = .int .i64 x28_1 ∧ Aside0 (mul_Gemm_nil.l0 kq t345 x28_1 a1_0 a1_1 a1_2 l1_3 a2_0 a2_1 a2_2 l2_3 t345 t346 t347 x352003_1 = some (r1, r2, r3, r4, r5)) ∧ Aside0 (kq ≤ k) ∧ Aside0 (Kd.R (Kd.int .u64) 33 w' w.heap.size (fun _ => True) u352003 x352003_1) ∧ Aside0 (w'.heap[gb341]? = some (.cells #[.int .i64 a1_0, .int .i64 a1_1, .int .i64 a1_2, (.slice A1_3 l1_3.length c1_3)] 25 (0, 0))) ∧ Aside0 (w'.heap[gb342]? = some (.cells #[.int .i64 a2_0, .int .i64 a2_1, .int .i64 a2_2, (.slice A2_3 l2_3.length c2_3)] 25 (0, 0))) ∧ Aside0 (w'.heap[gb343]? = some (.cells #[.int .i64 0, .int .i64 0, .int .i64 0, (.slice none 0 0)] 25 (0, 0))) ∧ Aside0 (w'.heap[gb351]? = some (.cells #[.int .i64 t345, .int .i64 t346, .int .i64 t347, u352003] 25 (0, 0))) ∧ Aside0 (Below w.heap.size w w'))
 case atStart => exact ⟨(0), (t348), (.slice Ao24 t348.length co24), (by first | rfl | (simp; done) | (simp [*]; done)), H', ⟨Nat.le_refl _⟩, ⟨by (with_reducible repeat (first | apply Kd.R_alloc | apply Kd.R_drewN | apply Kd.R_drew)); exact Kd.R_mono (Kd.R_far (p := ⟨gb351, 3, none⟩) (Kd.R_far (p := ⟨gb351, 2, none⟩) (Kd.R_far (p := ⟨gb351, 1, none⟩) (Kd.R_far (p := ⟨gb351, 0, none⟩) (Kd.R_types HO350.out BK351.out (by decide)) (fun _ hk => hk.2) (.int .i64 t345)) (fun _ hk => hk.2) (.int .i64 t346)) (fun _ hk => hk.2) (.int .i64 t347)) (fun _ hk => hk.2) (.slice Ao24 t348.length co24)) (fun _ hk => trivial)⟩, ⟨bf BK341 NB341_351⟩, ⟨bf BK342 NB342_351⟩, ⟨bf BK343 NB343_351⟩, ⟨bp BK351⟩, ⟨bes⟩⟩
 case round =>
  clear H'
  try clear c1
  try clear c2
  try clear p2
  try clear c5
  try clear c5b0
  try clear c5b1
  try clear c7
  try clear c10
  try clear c11
  try clear c13
  try clear c20
  try clear c21
  try clear c22
  try clear c24
  try clear hcz12_0
  try clear hcz12_1
  try clear hcz12_2
  try clear hcz12_3
  try clear hcz14_0
  try clear hcz14_1
  try clear hcz14_2
  try clear hcz14_3
  try clear hcz16_0
  try clear hcz16_1
  try clear hcz16_2
  try clear hcz16_3
  try clear hcz17_0
  try clear hcz17_1
  try clear hcz17_2
  try clear hcz17_3
  try clear hcz23_0
  try clear hcz23_1
  try clear hcz23_2
  try clear hcz23_3
  try clear hfz12_0
  try clear hfz12_1
  try clear hfz12_2
  try clear hfz12_3
  try clear hfz14_0
  try clear hfz14_1
  try clear hfz14_2
  try clear hfz14_3
  try clear hfz16_0
  try clear hfz16_1
  try clear hfz16_2
  try clear hfz16_3
  try clear hfz17_0
  try clear hfz17_1
  try clear hfz17_2
  try clear hfz17_3
  try clear hfz23_0
  try clear hfz23_1
  try clear hfz23_2
  try clear hfz23_3
  obtain ⟨x28_1, x352003_1, u352003, rfl, HA, HK1, HO_352003, BK341, BK342, BK343, BK351, HB⟩ := hrel
  cases gk with
  | zero => exact absurd HA.out (by simp [mul_Gemm_nil.l0])
  | succ k1 =>
   have H := HA.out
   clear HA
   simp only [mul_Gemm_nil.l0] at H
   by_cases c25 : x28_1 < t345
   ·
    rw [if_pos c25] at H
    have c25b0 : decide (x28_1 < t345) = true := decide_eq_true c25
    clear c25
    have H' := Aside0.mk H
    clear H
    have hnb26 := NB351_341.out
    have hnc26 := NB341_351.out
    have hnb27 := NB351_342.out
    have hnc27 := NB342_351.out
    have hnb28 := NB351_343.out
    have hnc28 := NB343_351.out
    have hcz29_0 := bc BK351 0 rfl
    have hcz29_1 := bc BK351 1 rfl
    have hcz29_2 := bc BK351 2 rfl
    have hcz29_3 := bc BK351 3 rfl
    have hfz29_0 := blk_frozen BK351.out 0
    have hfz29_1 := blk_frozen BK351.out 1
    have hfz29_2 := blk_frozen BK351.out 2
    have hfz29_3 := blk_frozen BK351.out 3
    go_wp2
    go_loopg [33] k1 (fun kq v33 w' => ∃ (x33_2 : Int) (x352003_2 : List Int) (u352003 : Value), v33 = .int .i64 x33_2 ∧ Aside0 (mul_Gemm_nil.l1 kq x28_1 t345 x28_1 t346 x33_2 a1_0 a1_1 a1_2 l1_3 a2_0 a2_1 a2_2 l2_3 t345 t346 t347 x352003_2 = some (r1, r2, r3, r4, r5)) ∧ Aside0 (kq ≤ k1) ∧ Aside0 (Kd.R (Kd.int .u64) 33 w' w.heap.size (fun _ => True) u352003 x352003_2) ∧ Aside0 (w'.heap[gb341]? = some (.cells #[.int .i64 a1_0, .int .i64 a1_1, .int .i64 a1_2, (.slice A1_3 l1_3.length c1_3)] 25 (0, 0))) ∧ Aside0 (w'.heap[gb342]? = some (.cells #[.int .i64 a2_0, .int .i64 a2_1, .int .i64 a2_2, (.slice A2_3 l2_3.length c2_3)] 25 (0, 0))) ∧ Aside0 (w'.heap[gb343]? = some (.cells #[.int .i64 0, .int .i64 0, .int .i64 0, (.slice none 0 0)] 25 (0, 0))) ∧ Aside0 (w'.heap[gb351]? = some (.cells #[.int .i64 t345, .int .i64 t346, .int .i64 t347, u352003] 25 (0, 0))) ∧ Aside0 (Below w.heap.size w w'))
    case atStart => exact ⟨(0), (x352003_1), (u352003), (by first | rfl | (simp; done) | (simp [*]; done)), H', ⟨Nat.le_refl _⟩, ⟨kr HO_352003⟩, ⟨kb BK341⟩, ⟨kb BK342⟩, ⟨kb BK343⟩, ⟨kb BK351⟩, ⟨bes⟩⟩
    case round =>
     clear H'
     try clear c1
     try clear c2
     try clear p2
     try clear c5
     try clear c5b0
     try clear c5b1
     try clear c7
     try clear c10
     try clear c11
     try clear c13
     try clear c20
     try clear c21
     try clear c22
     try clear c24
     try clear c25
     try clear c25b0
     try clear c26
     try clear c27
     try clear c28
     try clear hcz12_0
     try clear hcz12_1
     try clear hcz12_2
     try clear hcz12_3
     try clear hcz14_0
     try clear hcz14_1
     try clear hcz14_2
     try clear hcz14_3
     try clear hcz16_0
     try clear hcz16_1
     try clear hcz16_2
     try clear hcz16_3
     try clear hcz17_0
     try clear hcz17_1
     try clear hcz17_2
     try clear hcz17_3
     try clear hcz23_0
     try clear hcz23_1
     try clear hcz23_2
     try clear hcz23_3
     try clear hcz29_0
     try clear hcz29_1
     try clear hcz29_2
     try clear hcz29_3
     try clear hfz12_0
     try clear hfz12_1
     try clear hfz12_2
     try clear hfz12_3
     try clear hfz14_0
     try clear hfz14_1
     try clear hfz14_2
     try clear hfz14_3
     try clear hfz16_0
     try clear hfz16_1
     try clear hfz16_2
     try clear hfz16_3
     try clear hfz17_0
     try clear hfz17_1
     try clear hfz17_2
     try clear hfz17_3
     try clear hfz23_0
     try clear hfz23_1
     try clear hfz23_2
     try clear hfz23_3
     try clear hfz29_0
     try clear hfz29_1
     try clear hfz29_2
     try clear hfz29_3
     try clear p2
     obtain ⟨x33_2, x352003_2, u352003, rfl, HA, HK2, HO_352003, BK341, BK342, BK343, BK351, HB⟩ := hrel
     cases gk with
     | zero => exact absurd HA.out (by simp [mul_Gemm_nil.l1])
     | succ k2 =>
      have H := HA.out
      clear HA
      simp only [mul_Gemm_nil.l1] at H
      by_cases c30 : x33_2 < t346
      rotate_left
      ·
       rw [if_neg c30] at H
       have c30b0 : decide (x33_2 < t346) = false := decide_eq_false c30
       clear c30
       have H' := Aside0.mk H
       clear H
       go_wp2
       go_roundg k2
       case measure => have := HK1.out; have := HK2.out; omega
       case rel => exact ⟨(wrap64 (x28_1 + 1)), (x352003_2), (u352003), (by first | rfl | (simp; done) | (simp [*]; done)), H', ⟨by have := HK1.out; have := HK2.out; omega⟩, ⟨kr HO_352003⟩, ⟨kb BK341⟩, ⟨kb BK342⟩, ⟨kb BK343⟩, ⟨kb BK351⟩, ⟨bes⟩⟩
      rw [if_pos c30] at H
      have c30b0 : decide (x33_2 < t346) = true := decide_eq_true c30
      clear c30
      have H' := Aside0.mk H
      clear H
      have hnb31 := NB341_342.out
      have hnc31 := NB342_341.out
      have hnb32 := NB341_343.out
      have hnc32 := NB343_341.out
      have hnb33 := NB341_351.out
      have hnc33 := NB351_341.out
      have hcz34_0 := bc BK341 0 rfl
      have hcz34_1 := bc BK341 1 rfl
      have hcz34_2 := bc BK341 2 rfl
      have hcz34_3 := bc BK341 3 rfl
      have hfz34_0 := blk_frozen BK341.out 0
      have hfz34_1 := blk_frozen BK341.out 1
      have hfz34_2 := blk_frozen BK341.out 2
      have hfz34_3 := blk_frozen BK341.out 3
      go_wp2
      go_loopg [12, 38] k2 (fun kq v12 v38 w' => ∃ (x12_3 : Int) (x38_3 : Int), v12 = .int .u64 x12_3 ∧ v38 = .int .i64 x38_3 ∧ Aside0 (mul_Gemm_nil.l2 kq x28_1 x33_2 x12_3 t345 x28_1 t346 x33_2 a1_1 x38_3 a1_0 a1_1 a1_2 l1_3 a2_0 a2_1 a2_2 l2_3 t345 t346 t347 x352003_2 = some (r1, r2, r3, r4, r5)) ∧ Aside0 (kq ≤ k2) ∧ Aside0 (Kd.R (Kd.int .u64) 33 w' w.heap.size (fun _ => True) u352003 x352003_2) ∧ Aside0 (w'.heap[gb341]? = some (.cells #[.int .i64 a1_0, .int .i64 a1_1, .int .i64 a1_2, (.slice A1_3 l1_3.length c1_3)] 25 (0, 0))) ∧ Aside0 (w'.heap[gb342]? = some (.cells #[.int .i64 a2_0, .int .i64 a2_1, .int .i64 a2_2, (.slice A2_3 l2_3.length c2_3)] 25 (0, 0))) ∧ Aside0 (w'.heap[gb343]? = some (.cells #[.int .i64 0, .int .i64 0, .int .i64 0, (.slice none 0 0)] 25 (0, 0))) ∧ Aside0 (w'.heap[gb351]? = some (.cells #[.int .i64 t345, .int .i64 t346, .int .i64 t347, u352003] 25 (0, 0))) ∧ Aside0 (Below w.heap.size w w'))
      case atStart => exact ⟨(0), (0), (by first | rfl | (simp; done) | (simp [*]; done)), (by first | rfl | (simp; done) | (simp [*]; done)), H', ⟨Nat.le_refl _⟩, ⟨kr HO_352003⟩, ⟨kb BK341⟩, ⟨kb BK342⟩, ⟨kb BK343⟩, ⟨kb BK351⟩, ⟨bes⟩⟩
      case round =>
       clear H'
       try clear c1
       try clear c2
       try clear p2
       try clear c3
       try clear c5
       try clear c5b0
       try clear c5b1
       try clear c7
       try clear c10
       try clear c11
       try clear c13
       try clear c20
       try clear c21
       try clear c22
       try clear c24
       try clear c25
       try clear c25b0
       try clear c26
       try clear c27
       try clear c28
       try clear c30
       try clear c30b0
       try clear c31
       try clear c32
       try clear c33
       try clear hcz12_0
       try clear hcz12_1
       try clear hcz12_2
       try clear hcz12_3
       try clear hcz14_0
       try clear hcz14_1
       try clear hcz14_2
       try clear hcz14_3
       try clear hcz16_0
       try clear hcz16_1
       try clear hcz16_2
       try clear hcz16_3
       try clear hcz17_0
       try clear hcz17_1
       try clear hcz17_2
       try clear hcz17_3
       try clear hcz23_0
       try clear hcz23_1
       try clear hcz23_2
       try clear hcz23_3
       try clear hcz29_0
       try clear hcz29_1
       try clear hcz29_2
       try clear hcz29_3
       try clear hcz34_0
       try clear hcz34_1
       try clear hcz34_2
       try clear hcz34_3
       try clear hfz12_0
       try clear hfz12_1
       try clear hfz12_2
       try clear hfz12_3
       try clear hfz14_0
       try clear hfz14_1
       try clear hfz14_2
       try clear hfz14_3
       try clear hfz16_0
       try clear hfz16_1
       try clear hfz16_2
       try clear hfz16_3
       try clear hfz17_0
       try clear hfz17_1
       try clear hfz17_2
       try clear hfz17_3
       try clear hfz23_0
       try clear hfz23_1
       try clear hfz23_2
       try clear hfz23_3
       try clear hfz29_0
       try clear hfz29_1
       try clear hfz29_2
       try clear hfz29_3
       try clear hfz34_0
       try clear hfz34_1
       try clear hfz34_2
       try clear hfz34_3
       try clear p2
       obtain ⟨x12_3, x38_3, rfl, rfl, HA, HK3, HO_352003, BK341, BK342, BK343, BK351, HB⟩ := hrel
       cases gk with
       | zero => exact absurd HA.out (by simp [mul_Gemm_nil.l2])
       | succ k3 =>
        have H := HA.out
        clear HA
        simp only [mul_Gemm_nil.l2] at H
        by_cases c35 : x38_3 < a1_1
        ·
         rw [if_pos c35] at H
         have c35b0 : decide (x38_3 < a1_1) = true := decide_eq_true c35
         clear c35
         obtain ⟨t353, A360, H⟩ := Option.bind_eq_some_iff.mp H
         (try dsimp -simprocs only at H)
         have A36 := Aside0.mk A360
         clear A360
         obtain ⟨t354, A370, H⟩ := Option.bind_eq_some_iff.mp H
         (try dsimp -simprocs only at H)
         have A37 := Aside0.mk A370
         clear A370
         obtain ⟨t355, A380, H⟩ := Option.bind_eq_some_iff.mp H
         (try dsimp -simprocs only at H)
         have A38 := Aside0.mk A380
         clear A380
         obtain ⟨t356, A390, H⟩ := Option.bind_eq_some_iff.mp H
         (try dsimp -simprocs only at H)
         have A39 := Aside0.mk A390
         clear A390
         have H' := Aside0.mk H
         clear H
         try go_wp2
         refine ax6 (Kd.R_drew HO_352003.out) (blk_drew BK341.out) (blk_drew BK342.out) (blk_drew BK343.out) (blk_drew BK351.out) (below_drew1 HB.out) ?_
         clear HO_352003 BK341 BK342 BK343 BK351 HB
         intro HO_352003 BK341 BK342 BK343 BK351 HB
         refine start_ (n := 14) (S := fun w' => w'.cell? ⟨gb341, 0, none⟩ = some (.int .i64 a1_0) ∧ w'.cell? ⟨gb341, 1, none⟩ = some (.int .i64 a1_1) ∧ w'.cell? ⟨gb341, 2, none⟩ = some (.int .i64 a1_2) ∧ w'.cell? ⟨gb341, 3, none⟩ = some (.slice A1_3 l1_3.length c1_3) ∧ w'.cell? ⟨gb342, 0, none⟩ = some (.int .i64 a2_0) ∧ w'.cell? ⟨gb342, 1, none⟩ = some (.int .i64 a2_1) ∧ w'.cell? ⟨gb342, 2, none⟩ = some (.int .i64 a2_2) ∧ w'.cell? ⟨gb342, 3, none⟩ = some (.slice A2_3 l2_3.length c2_3)) (ds := []) #[false, false, false, false, false, false, false, false, false, false, false, false, false, false] (by kernel_rfl) rfl rfl ⟨bk BK341 0, bk BK341 1, bk BK341 2, bk BK341 3, bk BK342 0, bk BK342 1, bk BK342 2, bk BK342 3⟩ (fun hHeld => ?_); refine with_tabW mul_Gemm_nil.tab15 mul_Gemm_nil.bits15 (fun HT_ HW_ => ?_)
         generalize wr.drew = w40 at HO_352003 BK341 BK342 BK343 BK351 HB hHeld ⊢
         refine pu 0 41 (lm 14 1) HT_ ?_
         refine pu 1 42 (lm 14 3) HT_ ?_
         refine pu 2 43 (lm 14 7) HT_ ?_
         refine pu 4 45 (lm 14 23) HT_ ?_
         refine pu 5 46 (lm 14 55) HT_ ?_
         refine pu 8 49 (lm 14 311) HT_ ?_
         refine pu 9 50 (lm 14 823) HT_ ?_
         refine ta 3 44 (lm 14 831) HT_ HW_ hHeld ?_
         refine ta 7 48 (lm 14 959) HT_ HW_ hHeld ?_
         refine on 6 (some 47) (lm 14 1023) HT_ (fun K hK => ?_)
         refine goes_ Try.func17 (by kernel_rfl) rfl #[.agg #[.int .i64 a1_0, .int .i64 a1_1, .int .i64 a1_2, .slice A1_3 l1_3.length c1_3], .int .i64 x28_1, .int .i64 x38_3] (by rfl) rfl rfl ga ?_
         with_reducible refine (mat_Matrix_At.calls a1_0 a1_1 a1_2 _ _ l1_3 x28_1 x38_3 t353 _ ?side1 ?side2 A36.out).mono ?_
         (case side1 => repeat (first | exact (Kd.C_below HR1_3.out HB.out) | (with_reducible refine Kd.C_alloc ?_ _) | (with_reducible refine Kd.C_drewN ?_ _) | (with_reducible refine Kd.C_drew ?_)))
         (case side2 => exact HC1_3.out)
         rintro e w41 ⟨rfl, hb⟩
         refine ⟨_, rfl, ?_⟩
         refine ax6 (Kd.R_below (kr HO_352003) hb) (bb BK341 hb) (bb BK342 hb) (bb BK343 hb) (bb BK351 hb) (below_step bes hb) ?_
         clear HO_352003 BK341 BK342 BK343 BK351 HB
         intro HO_352003 BK341 BK342 BK343 BK351 HB
         (try clear hb)
         (try clear hb2)
         (try clear hk)
         (try clear hi)
         refine hK.out _ _ ⟨bk BK341 0, bk BK341 1, bk BK341 2, bk BK341 3, bk BK342 0, bk BK342 1, bk BK342 2, bk BK342 3⟩ (fun hHeld => ?_)
         clear hK K
         refine no 47 ?_
         refine on 10 (some 51) (lm 14 2047) HT_ (fun K hK => ?_)
         refine goes_ Try.func17 (by kernel_rfl) rfl #[.agg #[.int .i64 a2_0, .int .i64 a2_1, .int .i64 a2_2, .slice A2_3 l2_3.length c2_3], .int .i64 x38_3, .int .i64 x33_2] (by rfl) rfl rfl ga ?_
         with_reducible refine (mat_Matrix_At.calls a2_0 a2_1 a2_2 _ _ l2_3 x38_3 x33_2 t354 _ ?side1 ?side2 A37.out).mono ?_
         (case side1 => repeat (first | exact (Kd.C_below HR2_3.out HB.out) | (with_reducible refine Kd.C_alloc ?_ _) | (with_reducible refine Kd.C_drewN ?_ _) | (with_reducible refine Kd.C_drew ?_)))
         (case side2 => exact HC2_3.out)
         rintro e w42 ⟨rfl, hb⟩
         refine ⟨_, rfl, ?_⟩
         refine ax6 (Kd.R_below (kr HO_352003) hb) (bb BK341 hb) (bb BK342 hb) (bb BK343 hb) (bb BK351 hb) (below_step bes hb) ?_
         clear HO_352003 BK341 BK342 BK343 BK351 HB
         intro HO_352003 BK341 BK342 BK343 BK351 HB
         (try clear hb)
         (try clear hb2)
         (try clear hk)
         (try clear hi)
         refine hK.out _ _ ⟨bk BK341 0, bk BK341 1, bk BK341 2, bk BK341 3, bk BK342 0, bk BK342 1, bk BK342 2, bk BK342 3⟩ (fun hHeld => ?_)
         clear hK K
         refine no 51 ?_
         refine on 11 (some 52) (lm 14 4095) HT_ (fun K hK => ?_)
         refine goes_ Try.func18 (by kernel_rfl) rfl #[.pointer none, .int .u64 t353, .int .u64 t354] (by rfl) rfl rfl ga ?_
         with_reducible refine (soft_Calc_Mul_nil.calls k3  t353 t354 t355 _ A38.out).mono ?_
         rintro e w43 ⟨rfl, hb⟩
         refine ⟨_, rfl, ?_⟩
         refine ax6 (Kd.R_below (kr HO_352003) hb) (bb BK341 hb) (bb BK342 hb) (bb BK343 hb) (bb BK351 hb) (below_step bes hb) ?_
         clear HO_352003 BK341 BK342 BK343 BK351 HB
         intro HO_352003 BK341 BK342 BK343 BK351 HB
         (try clear hb)
         (try clear hb2)
         (try clear hk)
         (try clear hi)
         refine hK.out _ _ ⟨bk BK341 0, bk BK341 1, bk BK341 2, bk BK341 3, bk BK342 0, bk BK342 1, bk BK342 2, bk BK342 3⟩ (fun hHeld => ?_)
         clear hK K
         refine no 52 ?_
         refine on 12 (some 53) (lm 14 8191) HT_ (fun K hK => ?_)
         refine goes_ Try.func19 (by kernel_rfl) rfl #[.pointer none, .int .u64 x12_3, .int .u64 t355] (by rfl) rfl rfl ga ?_
         with_reducible refine (soft_Calc_Add_nil.calls k3  x12_3 t355 t356 _ A39.out).mono ?_
         rintro e w44 ⟨rfl, hb⟩
         refine ⟨_, rfl, ?_⟩
         refine ax6 (Kd.R_below (kr HO_352003) hb) (bb BK341 hb) (bb BK342 hb) (bb BK343 hb) (bb BK351 hb) (below_step bes hb) ?_
         clear HO_352003 BK341 BK342 BK343 BK351 HB
         intro HO_352003 BK341 BK342 BK343 BK351 HB
         (try clear hb)
         (try clear hb2)
         (try clear hk)
         (try clear hi)
         refine hK.out _ _ ⟨bk BK341 0, bk BK341 1, bk BK341 2, bk BK341 3, bk BK342 0, bk BK342 1, bk BK342 2, bk BK342 3⟩ (fun hHeld => ?_)
         clear hK K
         refine no 53 ?_
         refine pu 13 12 (lm 14 16383) HT_ ?_
         refine done_ (done_of HT_.out (by kernel_rfl)) ?_
         try go_wp2
         go_roundg k3
         case measure => have := HK1.out; have := HK2.out; have := HK3.out; omega
         case rel => exact ⟨(t356), (wrap64 (x38_3 + 1)), (by first | rfl | (simp; done) | (simp [*]; done)), (by first | rfl | (simp; done) | (simp [*]; done)), H', ⟨by have := HK1.out; have := HK2.out; have := HK3.out; omega⟩, ⟨kr HO_352003⟩, ⟨kb BK341⟩, ⟨kb BK342⟩, ⟨kb BK343⟩, ⟨kb BK351⟩, ⟨bes⟩⟩
        ·
         rw [if_neg c35] at H
         have c35b0 : decide (x38_3 < a1_1) = false := decide_eq_false c35
         clear c35
         obtain ⟨t352, A450, H⟩ := Option.bind_eq_some_iff.mp H
         (try dsimp -simprocs only at H)
         have A45 := Aside0.mk A450
         clear A450
         have H' := Aside0.mk H
         clear H
         have hnb46 := NB351_341.out
         have hnc46 := NB341_351.out
         have hnb47 := NB351_342.out
         have hnc47 := NB342_351.out
         have hnb48 := NB351_343.out
         have hnc48 := NB343_351.out
         have hcz49_0 := bc BK351 0 rfl
         have hcz49_1 := bc BK351 1 rfl
         have hcz49_2 := bc BK351 2 rfl
         have hcz49_3 := bc BK351 3 rfl
         have hfz49_0 := blk_frozen BK351.out 0
         have hfz49_1 := blk_frozen BK351.out 1
         have hfz49_2 := blk_frozen BK351.out 2
         have hfz49_3 := blk_frozen BK351.out 3
         obtain ⟨Ao50, co50, eo50⟩ := Kd.R_slice HO_352003.out
         subst eo50
         go_wp2_with (first | ((with_reducible refine gate_callee (f := 21) rfl ?_); refine goesL_ (some 59) rfl rfl Try.func21 (by kernel_rfl) rfl #[.agg #[.int .i64 t345, .int .i64 t346, .int .i64 t347, .slice Ao50 x352003_2.length co50], .int .i64 x28_1, .int .i64 x33_2, .int .u64 x12_3] rfl ga ?_; (with_reducible refine (mat_Matrix_Set.calls t345 t346 t347 (fun k_ => some k_ = (.slice Ao50 x352003_2.length co50 : Value).ownBlock) (.slice Ao50 x352003_2.length co50) x352003_2 x28_1 x33_2 x12_3 t352 w _ ?side1 ?side2 A45.out).mono ?_); (case side1 => repeat (first | (with_reducible first | exact HB.out | apply below_alloc | apply pw_below_drewN | apply below_drew1 | refine below_set ?_ GE341.out | refine below_set ?_ GE342.out | refine below_set ?_ GE343.out | refine below_set ?_ GE351.out) | exact HB.out)); (case side2 => exact Kd.R_tight rfl HO_352003.out); rintro e w51 ⟨rfl, hy0, hb, hkp⟩; refine ⟨_, rfl, ?_⟩; refine ax6 (Kd.R_reok rfl hy0 (fun k_ e_ => HO_352003.out.1 k_ e_)) (blk_kept (kb BK341) hkp (fun hs_ => (fun e_ => (Kd.R_ne HO_352003.out BK341.out (by decide)) e_) hs_)) (blk_kept (kb BK342) hkp (fun hs_ => (fun e_ => (Kd.R_ne HO_352003.out BK342.out (by decide)) e_) hs_)) (blk_kept (kb BK343) hkp (fun hs_ => (fun e_ => (Kd.R_ne HO_352003.out BK343.out (by decide)) e_) hs_)) (blk_kept (kb BK351) hkp (fun hs_ => (fun e_ => (Kd.R_ne HO_352003.out BK351.out (by decide)) e_) hs_)) hb ?_; clear HO_352003; clear BK341; clear BK342; clear BK343; clear BK351; clear HB; intro HO_352003 BK341 BK342 BK343 BK351 HB; (try clear hb); (try clear hkp); (try clear hy0)))
         go_roundg k3
         case measure => have := HK1.out; have := HK2.out; have := HK3.out; omega
         case rel => exact ⟨(wrap64 (x33_2 + 1)), (t352), (.slice Ao50 x352003_2.length co50), (by first | rfl | (simp; done) | (simp [*]; done)), H', ⟨by have := HK1.out; have := HK2.out; have := HK3.out; omega⟩, ⟨kr HO_352003⟩, ⟨kb BK341⟩, ⟨kb BK342⟩, ⟨kb BK343⟩, ⟨kb BK351⟩, ⟨bes⟩⟩
   ·
    rw [if_neg c25] at H
    have c25b0 : decide (x28_1 < t345) = false := decide_eq_false c25
    clear c25
    simp only [Option.some.injEq, Prod.mk.injEq] at H
    obtain ⟨rfl, rfl, rfl, rfl, rfl⟩ := H
    have hnb52 := NB351_341.out
    have hnc52 := NB341_351.out
    have hnb53 := NB351_342.out
    have hnc53 := NB342_351.out
    have hnb54 := NB351_343.out
    have hnc54 := NB343_351.out
    have hcz55_0 := bc BK351 0 rfl
    have hcz55_1 := bc BK351 1 rfl
    have hcz55_2 := bc BK351 2 rfl
    have hcz55_3 := bc BK351 3 rfl
    have hfz55_0 := blk_frozen BK351.out 0
    have hfz55_1 := blk_frozen BK351.out 1
    have hfz55_2 := blk_frozen BK351.out 2
    have hfz55_3 := blk_frozen BK351.out 3
    have hnb56 := NB343_341.out
    have hnc56 := NB341_343.out
    have hnb57 := NB343_342.out
    have hnc57 := NB342_343.out
    have hcz58_0 := bc BK343 0 rfl
    have hcz58_1 := bc BK343 1 rfl
    have hcz58_2 := bc BK343 2 rfl
    have hcz58_3 := bc BK343 3 rfl
    have hfz58_0 := blk_frozen BK343.out 0
    have hfz58_1 := blk_frozen BK343.out 1
    have hfz58_2 := blk_frozen BK343.out 2
    have hfz58_3 := blk_frozen BK343.out 3
    obtain ⟨Ao59, co59, eo59⟩ := Kd.R_slice HO_352003.out
    subst eo59
    go_wp2
    refine bodyPost_ret (results_ct rfl _ _ gb343 25 #[.int .i64 t345, .int .i64 t346, .int .i64 t347, .slice Ao59 x352003_1.length co59] (0, 0) _ rfl (bp BK343) Try.underlying25 rfl (by kernel_rfl)) rfl ?_
    exact ⟨_, er, by (with_reducible repeat (first | apply Kd.R_alloc | apply Kd.R_drewN | apply Kd.R_drew)); exact Kd.R_mono (Kd.R_far (p := ⟨gb343, 3, none⟩) (Kd.R_far (p := ⟨gb343, 2, none⟩) (Kd.R_far (p := ⟨gb343, 1, none⟩) (Kd.R_far (p := ⟨gb343, 0, none⟩) (Kd.R_types HO_352003.out BK343.out (by decide)) (fun _ hk => hk.2) (.int .i64 t345)) (fun _ hk => hk.2) (.int .i64 t346)) (fun _ hk => hk.2) (.int .i64 t347)) (fun _ hk => hk.2) (.slice Ao59 x352003_1.length co59)) (fun _ hk => trivial), bes⟩
/-! ### mat_One: function 9 -/
def mat_One.l0 : Nat → Int → Int → Int → Int → Int → List Int → Option (Int × Int × Int × List Int)
 | 0, _, _, _, _, _, _ => none
 | k + 1, x9, x10, x365000, x365001, x365002, x365003 => if x10 < x9 then ((mat_Matrix_Set.f x365000 x365001 x365002 x365003 x10 x10 4607182418800017408).bind fun t365 => (mat_One.l0 k x9 (wrap64 (x10 + 1)) x365000 x365001 x365002 t365)) else (some (x365000, x365001, x365002, x365003))
def mat_One.f (k : Nat) (a0 : Int) : Option (Int × Int × Int × List Int) := (mat_New.f a0 a0).bind fun bt358 => (mat_One.l0 k bt358.1 0 bt358.1 bt358.2.1 bt358.2.2.1 bt358.2.2.2)
theorem mat_One.mono_l : ∀ k, (∀ y0 y1 y2 y3 y4 y5, LeO (mat_One.l0 k y0 y1 y2 y3 y4 y5) (mat_One.l0 (k + 1) y0 y1 y2 y3 y4 y5))
 | 0 => fun _ _ _ _ _ _ r h => by simp [mat_One.l0] at h
 | k + 1 => by
  have ih0 := mat_One.mono_l k
  ·
   intro y0 y1 y2 y3 y4 y5
   unfold mat_One.l0
   repeat' with_reducible first | apply ih0 | exact LeO.refl _ | exact LeO.none _ | refine LeO.ite ?_ ?_ | refine LeO.bind ?_ (fun _ => ?_)
theorem mat_One.mono : ∀ a0 k, LeO (mat_One.f k a0) (mat_One.f (k + 1) a0) := by
 intro a0 k
 have ih0 := mat_One.mono_l k
 unfold mat_One.f
 repeat' with_reducible first | apply ih0 | exact LeO.refl _ | exact LeO.none _ | refine LeO.ite ?_ ?_ | refine LeO.bind ?_ (fun _ => ?_)
set_option maxHeartbeats 8000000 in
set_option maxRecDepth 100000 in
theorem mat_One.calls (k : Nat) (a0 : Int) (r1 : Int) (r2 : Int) (r3 : Int) (r4 : List Int) (w : World) (h : mat_One.f k a0 = some (r1, r2, r3, r4)) :
  Calls Try.prog 9 #[.int .i64 a0] w fun e w' => ∃ v3_ : Value, e = .returned (.agg #[.int .i64 r1, .int .i64 r2, .int .i64 r3, v3_]) ∧ Kd.R (Kd.int .u64) 33 w' w.heap.size (fun _ => True) v3_ r4 ∧ Below w.heap.size w w' := by
 have hu25 := Try.underlying25
 have HB := Aside0.mk (Below.refl w.heap.size w)
 have H : ((mat_New.f a0 a0).bind fun bt358 => (mat_One.l0 k bt358.1 0 bt358.1 bt358.2.1 bt358.2.2.1 bt358.2.2.2)) = some (r1, r2, r3, r4) := h
 clear h
 obtain ⟨⟨t358, t359, t360, t361⟩, A20, H⟩ := Option.bind_eq_some_iff.mp H
 (try dsimp -simprocs only at H)
 have A2 := Aside0.mk A20
 clear A20
 have H' := Aside0.mk H
 clear H
 go_enter Try.func9, Try.ntmps9
 go_wp2_with (first | ((with_reducible refine gate_dst (N := 2) rfl ?_); refine gbox (N := 2) (cs := #[.int .i64 0, .int .i64 0, .int .i64 0, .slice none 0 0]) (t := 25) ?_; intro gb357 hg w3 hbox hb; refine ax4 (below_step bel hb) hbox ((ge hg : w.heap.size ≤ gb357)) ((ge hg : w.heap.size ≤ gb357)) ?_; clear HB; intro HB BK357 GW357 GE357; clear hb hbox hg) | ((with_reducible refine gate_callee (f := 20) rfl ?_); refine goesL_ (some 7) rfl rfl Try.func20 (by kernel_rfl) rfl #[.int .i64 a0, .int .i64 a0] rfl ga ?_; (with_reducible refine (mat_New.calls a0 a0 t358 t359 t360 t361 _ A2.out).mono ?_); rintro e w4 ⟨v362, rfl, ho0, hb⟩; refine ⟨_, rfl, ?_⟩; refine ax3 (Kd.R_lower ho0 (below_size bes)) (bb BK357 hb) (below_step bes hb) ?_; clear BK357; clear HB; intro HO363 BK357 HB; (try clear hb); (try clear ho0)) | ((with_reducible refine gate_dst (N := 3) rfl ?_); refine gbox (N := 3) (cs := #[.int .i64 0, .int .i64 0, .int .i64 0, .slice none 0 0]) (t := 25) ?_; intro gb364 hg w5 hbox hb; refine ax8 (Kd.R_below (kr HO363) hb) (bb BK357 hb) (below_step bes hb) hbox ((ge hg : w.heap.size ≤ gb364)) ((ge hg : w.heap.size ≤ gb364)) (nl hg BK357) (ng hg BK357) ?_; clear HO363; clear BK357; clear HB; intro HO363 BK357 HB BK364 GW364 GE364 NB357_364 NB364_357; clear hb hbox hg; have hnb6 := NB364_357.out; have hnc6 := NB357_364.out; have hcz7_0 := bc BK364 0 rfl; have hcz7_1 := bc BK364 1 rfl; have hcz7_2 := bc BK364 2 rfl; have hcz7_3 := bc BK364 3 rfl; have hfz7_0 := blk_frozen BK364.out 0; have hfz7_1 := blk_frozen BK364.out 1; have hfz7_2 := blk_frozen BK364.out 2; have hfz7_3 := blk_frozen BK364.out 3; obtain ⟨Ao8, co8, eo8⟩ := Kd.R_slice HO363.out; subst eo8))
 go_loopg [10] k (fun kq v10 w' => ∃ (x10_1 : Int) (x365003_1 : List Int) (u365003 : Value), v10 = .int .i64 x10_1 ∧ Aside0 (mat_One.l0 kq t358 x10_1 t358 t359 t360 x365003_1 = some (r1, r2, r3, r4)) ∧ Aside0 (kq ≤ k) ∧ Aside0 (Kd.R (Kd.int .u64) 33 w' w.heap.size (fun _ => True) u365003 x365003_1) ∧ Aside0 (w'.heap[gb357]? = some (.cells #[.int .i64 0, .int .i64 0, .int .i64 0, (.slice none 0 0)] 25 (0, 0))) ∧ Aside0 (w'.heap[gb364]? = some (.cells #[.int .i64 t358, .int .i64 t359, .int .i64 t360, u365003] 25 (0, 0))) ∧ Aside0 (Below w.heap.size w w'))
 case atStart => exact ⟨(0), (t361), (.slice Ao8 t361.length co8), (by first | rfl | (simp; done) | (simp [*]; done)), H', ⟨Nat.le_refl _⟩, ⟨by (with_reducible repeat (first | apply Kd.R_alloc | apply Kd.R_drewN | apply Kd.R_drew)); exact Kd.R_mono (Kd.R_far (p := ⟨gb364, 3, none⟩) (Kd.R_far (p := ⟨gb364, 2, none⟩) (Kd.R_far (p := ⟨gb364, 1, none⟩) (Kd.R_far (p := ⟨gb364, 0, none⟩) (Kd.R_types HO363.out BK364.out (by decide)) (fun _ hk => hk.2) (.int .i64 t358)) (fun _ hk => hk.2) (.int .i64 t359)) (fun _ hk => hk.2) (.int .i64 t360)) (fun _ hk => hk.2) (.slice Ao8 t361.length co8)) (fun _ hk => trivial)⟩, ⟨bf BK357 NB357_364⟩, ⟨bp BK364⟩, ⟨bes⟩⟩
 case round =>
  clear H'
  try clear c2
  try clear p2
  try clear c6
  try clear hcz7_0
  try clear hcz7_1
  try clear hcz7_2
  try clear hcz7_3
  try clear hfz7_0
  try clear hfz7_1
  try clear hfz7_2
  try clear hfz7_3
  obtain ⟨x10_1, x365003_1, u365003, rfl, HA, HK1, HO_365003, BK357, BK364, HB⟩ := hrel
  cases gk with
  | zero => exact absurd HA.out (by simp [mat_One.l0])
  | succ k1 =>
   have H := HA.out
   clear HA
   simp only [mat_One.l0] at H
   by_cases c9 : x10_1 < t358
   ·
    rw [if_pos c9] at H
    have c9b0 : decide (x10_1 < t358) = true := decide_eq_true c9
    clear c9
    obtain ⟨t365, A100, H⟩ := Option.bind_eq_some_iff.mp H
    (try dsimp -simprocs only at H)
    have A10 := Aside0.mk A100
    clear A100
    have H' := Aside0.mk H
    clear H
    have hnb11 := NB364_357.out
    have hnc11 := NB357_364.out
    have hcz12_0 := bc BK364 0 rfl
    have hcz12_1 := bc BK364 1 rfl
    have hcz12_2 := bc BK364 2 rfl
    have hcz12_3 := bc BK364 3 rfl
    have hfz12_0 := blk_frozen BK364.out 0
    have hfz12_1 := blk_frozen BK364.out 1
    have hfz12_2 := blk_frozen BK364.out 2
    have hfz12_3 := blk_frozen BK364.out 3
    obtain ⟨Ao13, co13, eo13⟩ := Kd.R_slice HO_365003.out
    subst eo13
    go_wp2_with (first | ((with_reducible refine gate_callee (f := 21) rfl ?_); refine goesL_ (some 16) rfl rfl Try.func21 (by kernel_rfl) rfl #[.agg #[.int .i64 t358, .int .i64 t359, .int .i64 t360, .slice Ao13 x365003_1.length co13], .int .i64 x10_1, .int .i64 x10_1, .int .u64 4607182418800017408] rfl ga ?_; (with_reducible refine (mat_Matrix_Set.calls t358 t359 t360 (fun k_ => some k_ = (.slice Ao13 x365003_1.length co13 : Value).ownBlock) (.slice Ao13 x365003_1.length co13) x365003_1 x10_1 x10_1 4607182418800017408 t365 w _ ?side1 ?side2 A10.out).mono ?_); (case side1 => repeat (first | (with_reducible first | exact HB.out | apply below_alloc | apply pw_below_drewN | apply below_drew1 | refine below_set ?_ GE357.out | refine below_set ?_ GE364.out) | exact HB.out)); (case side2 => exact Kd.R_tight rfl HO_365003.out); rintro e w14 ⟨rfl, hy0, hb, hkp⟩; refine ⟨_, rfl, ?_⟩; refine ax4 (Kd.R_reok rfl hy0 (fun k_ e_ => HO_365003.out.1 k_ e_)) (blk_kept (kb BK357) hkp (fun hs_ => (fun e_ => (Kd.R_ne HO_365003.out BK357.out (by decide)) e_) hs_)) (blk_kept (kb BK364) hkp (fun hs_ => (fun e_ => (Kd.R_ne HO_365003.out BK364.out (by decide)) e_) hs_)) hb ?_; clear HO_365003; clear BK357; clear BK364; clear HB; intro HO_365003 BK357 BK364 HB; (try clear hb); (try clear hkp); (try clear hy0)))
    go_roundg k1
    case measure => have := HK1.out; omega
    case rel => exact ⟨(wrap64 (x10_1 + 1)), (t365), (.slice Ao13 x365003_1.length co13), (by first | rfl | (simp; done) | (simp [*]; done)), H', ⟨by have := HK1.out; omega⟩, ⟨kr HO_365003⟩, ⟨kb BK357⟩, ⟨kb BK364⟩, ⟨bes⟩⟩
   ·
    rw [if_neg c9] at H
    have c9b0 : decide (x10_1 < t358) = false := decide_eq_false c9
    clear c9
    simp only [Option.some.injEq, Prod.mk.injEq] at H
    obtain ⟨rfl, rfl, rfl, rfl⟩ := H
    have hnb15 := NB364_357.out
    have hnc15 := NB357_364.out
    have hcz16_0 := bc BK364 0 rfl
    have hcz16_1 := bc BK364 1 rfl
    have hcz16_2 := bc BK364 2 rfl
    have hcz16_3 := bc BK364 3 rfl
    have hfz16_0 := blk_frozen BK364.out 0
    have hfz16_1 := blk_frozen BK364.out 1
    have hfz16_2 := blk_frozen BK364.out 2
    have hfz16_3 := blk_frozen BK364.out 3
    have hcz17_0 := bc BK357 0 rfl
    have hcz17_1 := bc BK357 1 rfl
    have hcz17_2 := bc BK357 2 rfl
    have hcz17_3 := bc BK357 3 rfl
    have hfz17_0 := blk_frozen BK357.out 0
    have hfz17_1 := blk_frozen BK357.out 1
    have hfz17_2 := blk_frozen BK357.out 2
    have hfz17_3 := blk_frozen BK357.out 3
    obtain ⟨Ao18, co18, eo18⟩ := Kd.R_slice HO_365003.out
    subst eo18
    go_wp2
    refine bodyPost_ret (results_cell_row rfl _ _ gb357 25 #[.int .i64 t358, .int .i64 t359, .int .i64 t360, .slice Ao18 x365003_1.length co18] (0, 0) _ rfl (bp BK357) Try.underlying25 rfl (by kernel_rfl)) rfl ?_
    exact ⟨_, er, by (with_reducible repeat (first | apply Kd.R_alloc | apply Kd.R_drewN | apply Kd.R_drew)); exact Kd.R_mono (Kd.R_far (p := ⟨gb357, 3, none⟩) (Kd.R_far (p := ⟨gb357, 2, none⟩) (Kd.R_far (p := ⟨gb357, 1, none⟩) (Kd.R_far (p := ⟨gb357, 0, none⟩) (Kd.R_types HO_365003.out BK357.out (by decide)) (fun _ hk => hk.2) (.int .i64 t358)) (fun _ hk => hk.2) (.int .i64 t359)) (fun _ hk => hk.2) (.int .i64 t360)) (fun _ hk => hk.2) (.slice Ao18 x365003_1.length co18)) (fun _ hk => trivial), bes⟩

end Go.Proofs.Ytfogmgcpajndcaa.F
