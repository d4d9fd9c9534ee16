-- Written by a program of this seat's session (mkprint), out of the translation.
import Derived.Test.YtfogmgcpajndcaaShort
import Derived.Test.YtfogmgcpajndcaaFx0
import Derived.Test.YtfogmgcpajndcaaFx2
import Derived.Test.YtfogmgcpajndcaaFx7
import Derived.Test.YtfogmgcpajndcaaFx9
import Derived.Test.YtfogmgcpajndcaaFx10
namespace Go.Proofs.Ytfogmgcpajndcaa.F
open Go.RowKit Go.Proofs.YtfogmgcpajndcaaW.PrintWords Go.Proofs.YtfogmgcpajndcaaW.PrintLast Go.Proofs.YtfogmgcpajndcaaW.PrintMore
attribute [local go_sem] max2_int min2_int max_two min_two max_three min_three max_four min_four   -- for this text's walks alone
set_option linter.unusedVariables false
set_option linter.unusedSimpArgs false

/-! ### mul_Ger: function 15 -/
mutual
def mul_Ger.j0 : Nat → Int → List Int → List Int → Bool → Int → Int → Int → Int → List Int → Option (Int × Int × Int × List Int × Int × Int)
 | 0, _, _, _, _, _, _, _, _, _ => none
 | k + 1, x2, x3, x4, x32, x1000, x518000, x518001, x518002, x518003 => if x32 = true then (some (0, 0, 0, ([] : List Int), 4, x1000)) else ((mat_Matrix_Clone.f k x518000 x518001 x518002 x518003).bind fun bt520 => (mul_Ger.l0 k x2 x3 x4 bt520.1 0 x1000 bt520.1 bt520.2.1 bt520.2.2.1 bt520.2.2.2))
def mul_Ger.l0 : Nat → Int → List Int → List Int → Int → Int → Int → Int → Int → Int → List Int → Option (Int × Int × Int × List Int × Int × Int)
 | 0, _, _, _, _, _, _, _, _, _, _ => none
 | k + 1, x2, x3, x4, x37, x38, x1000, x527000, x527001, x527002, x527003 => if x38 < x37 then (if 0 ≤ x38 then (if x38 < (x3.length : Int) then ((soft_Calc_Mul.f k x1000 x2 (rd x3 x38)).bind fun bt528 => (mul_Ger.l1 k x2 x3 x4 x38 bt528.1 x37 x38 x527001 0 bt528.2 x527000 x527001 x527002 x527003)) else (none)) else (none)) else (some (x527000, x527001, x527002, x527003, 0, x1000))
def mul_Ger.l1 : Nat → Int → List Int → List Int → Int → Int → Int → Int → Int → Int → Int → Int → Int → Int → List Int → Option (Int × Int × Int × List Int × Int × Int)
 | 0, _, _, _, _, _, _, _, _, _, _, _, _, _, _ => none
 | k + 1, x2, x3, x4, x13, x14, x37, x38, x49, x50, x1000, x527000, x527001, x527002, x527003 => if x50 < x49 then ((mat_Matrix_At.f x527000 x527001 x527002 x527003 x13 x50).bind fun t530 => (if 0 ≤ x50 then (if x50 < (x4.length : Int) then ((soft_Calc_Mul.f k x1000 x14 (rd x4 x50)).bind fun bt532 => ((soft_Calc_Add.f k bt532.2 t530 bt532.1).bind fun bt534 => ((mat_Matrix_Set.f x527000 x527001 x527002 x527003 x13 x50 bt534.1).bind fun t536 => (mul_Ger.l1 k x2 x3 x4 x13 x14 x37 x38 x49 (wrap64 (x50 + 1)) bt534.2 x527000 x527001 x527002 t536)))) else (none)) else (none))) else (mul_Ger.l0 k x2 x3 x4 x37 (wrap64 (x38 + 1)) x1000 x527000 x527001 x527002 x527003)
end
def mul_Ger.f (k : Nat) (s0_0 : Int) (a1_0 : Int) (a1_1 : Int) (a1_2 : Int) (l1_3 : List Int) (a2 : Int) (l3 : List Int) (l4 : List Int) : Option (Int × Int × Int × List Int × Int × Int) := (mat_Matrix_Check.f k a1_0 a1_1 a1_2 l1_3).bind fun t519 => (if t519 = 0 then (if a1_0 = (l3.length : Int) then (mul_Ger.j0 k a2 l3 l4 (a1_1 != (l4.length : Int)) s0_0 a1_0 a1_1 a1_2 l1_3) else (mul_Ger.j0 k a2 l3 l4 true s0_0 a1_0 a1_1 a1_2 l1_3)) else (mul_Ger.j0 k a2 l3 l4 true s0_0 a1_0 a1_1 a1_2 l1_3))
theorem mul_Ger.mono_l : ∀ k, (∀ y0 y1 y2 y3 y4 y5 y6 y7 y8, LeO (mul_Ger.j0 k y0 y1 y2 y3 y4 y5 y6 y7 y8) (mul_Ger.j0 (k + 1) y0 y1 y2 y3 y4 y5 y6 y7 y8)) ∧ (∀ y0 y1 y2 y3 y4 y5 y6 y7 y8 y9, LeO (mul_Ger.l0 k y0 y1 y2 y3 y4 y5 y6 y7 y8 y9) (mul_Ger.l0 (k + 1) y0 y1 y2 y3 y4 y5 y6 y7 y8 y9)) ∧ (∀ y0 y1 y2 y3 y4 y5 y6 y7 y8 y9 y10 y11 y12 y13, LeO (mul_Ger.l1 k y0 y1 y2 y3 y4 y5 y6 y7 y8 y9 y10 y11 y12 y13) (mul_Ger.l1 (k + 1) y0 y1 y2 y3 y4 y5 y6 y7 y8 y9 y10 y11 y12 y13))
 | 0 => ⟨fun _ _ _ _ _ _ _ _ _ r h => by simp [mul_Ger.j0] at h, fun _ _ _ _ _ _ _ _ _ _ r h => by simp [mul_Ger.l0] at h, fun _ _ _ _ _ _ _ _ _ _ _ _ _ _ r h => by simp [mul_Ger.l1] at h⟩
 | k + 1 => by
  obtain ⟨ih0, ih1, ih2⟩ := mul_Ger.mono_l k
  refine ⟨?_, ?_, ?_⟩ <;> intros <;> (first | unfold mul_Ger.j0 | unfold mul_Ger.l0 | unfold mul_Ger.l1) <;>
   repeat' with_reducible first | apply ih0 | apply ih1 | apply ih2 | apply mat_Matrix_Check.mono | apply mat_Matrix_Clone.mono | apply soft_Calc_Add.mono | apply soft_Calc_Mul.mono | exact LeO.refl _ | exact LeO.none _ | refine LeO.ite ?_ ?_ | refine LeO.bind ?_ (fun _ => ?_)
theorem mul_Ger.mono : ∀ a0 a1 a2 a3 a4 a5 a6 a7 k, LeO (mul_Ger.f k a0 a1 a2 a3 a4 a5 a6 a7) (mul_Ger.f (k + 1) a0 a1 a2 a3 a4 a5 a6 a7) := by
 intro a0 a1 a2 a3 a4 a5 a6 a7 k
 obtain ⟨ih0, ih1, ih2⟩ := mul_Ger.mono_l k
 unfold mul_Ger.f
 repeat' with_reducible first | apply ih0 | apply ih1 | apply ih2 | apply mat_Matrix_Check.mono | apply mat_Matrix_Clone.mono | apply soft_Calc_Add.mono | apply soft_Calc_Mul.mono | exact LeO.refl _ | exact LeO.none _ | refine LeO.ite ?_ ?_ | refine LeO.bind ?_ (fun _ => ?_)
def mul_Ger.T11 : Bool × List (List Nat × List Nat) := (true, [([], []), ([], []), ([], []), ([], []), ([], []), ([], []), ([], []), ([4, 5, 6], [4, 5, 6]), ([], []), ([], []), ([], []), ([], []), ([10, 11], [10, 11]), ([12], [12]), ([8, 9, 13, 7], [8, 9, 13]), ([3, 7, 14, 14], [3, 7, 14]), ([0, 1, 2, 15, 15], [0, 1, 2, 15])])
def mul_Ger.B11 : List Nat := [0, 0, 0, 0, 0, 0, 0, 112, 0, 0, 0, 0, 3072, 7168, 16368, 32760, 65535]
theorem mul_Ger.tab11 : rtab .any (opsOf Try.f15 11) = mul_Ger.T11 := by kernel_rfl
theorem mul_Ger.bits11 : waitsOk mul_Ger.T11.2 mul_Ger.B11 = true := by kernel_rfl
set_option maxHeartbeats 8000000 in
set_option maxRecDepth 100000 in
theorem mul_Ger.calls (k : Nat) (g : Nat) (s0_0 : Int) (a1_0 : Int) (a1_1 : Int) (a1_2 : Int) (A1_3 : Option Addr) (c1_3 : Nat) (l1_3 : List Int) (a2 : Int) (A3 : Option Addr) (c3 : Nat) (l3 : List Int) (A4 : Option Addr) (c4 : Nat) (l4 : List Int) (r1 : Int) (r2 : Int) (r3 : Int) (r4 : List Int) (r5 : Int) (r6 : Int) (w0 w : World) (hI : IsS40 w0 w g s0_0) (hB : Below w0.heap.size w0 w) (hr1_3 : Kd.C (Kd.int .u64) w A1_3 l1_3.length l1_3) (hc1_3 : l1_3.length ≤ c1_3) (hf1_3 : ∀ ad, A1_3 = some ad → 0 < l1_3.length → ad.block ≠ g) (hr3 : Kd.C (Kd.int .u64) w A3 l3.length l3) (hc3 : l3.length ≤ c3) (hf3 : ∀ ad, A3 = some ad → 0 < l3.length → ad.block ≠ g) (hr4 : Kd.C (Kd.int .u64) w A4 l4.length l4) (hc4 : l4.length ≤ c4) (hf4 : ∀ ad, A4 = some ad → 0 < l4.length → ad.block ≠ g) (h : mul_Ger.f k s0_0 a1_0 a1_1 a1_2 l1_3 a2 l3 l4 = some (r1, r2, r3, r4, r5, r6)) :
  Calls Try.prog 15 #[.pointer (some ⟨g, 0, none⟩), .agg #[.int .i64 a1_0, .int .i64 a1_1, .int .i64 a1_2, .slice A1_3 l1_3.length c1_3], .int .u64 a2, .slice A3 l3.length c3, .slice A4 l4.length c4] w fun e w' => ∃ v3_ : Value, e = .returned (.tuple #[.agg #[.int .i64 r1, .int .i64 r2, .int .i64 r3, v3_], .int .i64 r5]) ∧ Kd.R (Kd.int .u64) 33 w' w.heap.size (fun _ => True) v3_ r4 ∧ IsS40 w0 w' g r6 ∧ Below w0.heap.size w0 w' ∧ KeepBut w w' g none := by
 have hu25 := Try.underlying25
 have HR1_3 := Aside0.mk hr1_3
 have HC1_3 := Aside0.mk hc1_3
 clear hr1_3 hc1_3
 have HR3 := Aside0.mk hr3
 have HC3 := Aside0.mk hc3
 clear hr3 hc3
 have HR4 := Aside0.mk hr4
 have HC4 := Aside0.mk hc4
 clear hr4 hc4
 have HI0 := Aside0.mk hI
 have HK := Aside0.mk (KeepBut.refl w g none)
 have HL := Aside0.mk hB.size
 clear hI
 have HW0 := Aside0.mk hB.size
 have HB := Aside0.mk hB
 clear hB
 have H : ((mat_Matrix_Check.f k a1_0 a1_1 a1_2 l1_3).bind fun t519 => (if t519 = 0 then (if a1_0 = (l3.length : Int) then (mul_Ger.j0 k a2 l3 l4 (a1_1 != (l4.length : Int)) s0_0 a1_0 a1_1 a1_2 l1_3) else (mul_Ger.j0 k a2 l3 l4 true s0_0 a1_0 a1_1 a1_2 l1_3)) else (mul_Ger.j0 k a2 l3 l4 true s0_0 a1_0 a1_1 a1_2 l1_3))) = some (r1, r2, r3, r4, r5, r6) := h
 clear h
 have HC6 := Aside0.mk H
 clear H
 go_enter Try.func15, Try.ntmps15
 go_upto_region 1 with (first | ((with_reducible refine gate_dst (N := 6) rfl ?_); refine gbox (N := 6) (cs := #[.int .i64 a1_0, .int .i64 a1_1, .int .i64 a1_2, .slice A1_3 l1_3.length c1_3]) (t := 25) ?_; intro gb517 hg w7 hbox hb; refine ax8 (IsS40.below (ss40 HI0) hb) (KeepBut.trans (kz HK) (KeepBut.of_below hb g none) (.inl rfl)) (below_step sb40 hb) hbox ((by rw [hg]; exact (keep_size (w := w) (g := g) (row := none) (kz HK)) : w.heap.size ≤ gb517)) ((Nat.le_trans HW0.out (by rw [hg]; exact (keep_size (w := w) (g := g) (row := none) (kz HK)) : w.heap.size ≤ gb517) : w0.heap.size ≤ gb517)) ((by rw [hg]; exact Nat.ne_of_lt (IsS40.lt (show IsS40 w0 _ g s0_0 from ss40 HI0)) : g ≠ gb517)) ((by rw [hg]; exact Nat.ne_of_gt (IsS40.lt (show IsS40 w0 _ g s0_0 from ss40 HI0)) : gb517 ≠ g)) ?_; clear HI0; clear HK; clear HB; intro HI0 HK HB BK517 GW517 GE517 NB0_517 NB517_0; clear hb hbox hg) | ((with_reducible refine gate_dst (N := 10) rfl ?_); refine gbox (N := 10) (cs := #[.int .i64 0, .int .i64 0, .int .i64 0, .slice none 0 0]) (t := 25) ?_; intro gb518 hg w8 hbox hb; refine ax11 (IsS40.below (ss40 HI0) hb) (bb BK517 hb) (KeepBut.trans (ky HK) (KeepBut.of_below hb g none) (.inl rfl)) (below_step sb40 hb) hbox ((by rw [hg]; exact (keep_size (w := w) (g := g) (row := none) (ky HK)) : w.heap.size ≤ gb518)) ((Nat.le_trans HW0.out (by rw [hg]; exact (keep_size (w := w) (g := g) (row := none) (ky HK)) : w.heap.size ≤ gb518) : w0.heap.size ≤ gb518)) (nl hg BK517) (ng hg BK517) ((by rw [hg]; exact Nat.ne_of_lt (IsS40.lt (show IsS40 w0 _ g s0_0 from ss40 HI0)) : g ≠ gb518)) ((by rw [hg]; exact Nat.ne_of_gt (IsS40.lt (show IsS40 w0 _ g s0_0 from ss40 HI0)) : gb518 ≠ g)) ?_; clear HI0; clear BK517; clear HK; clear HB; intro HI0 BK517 HK HB BK518 GW518 GE518 NB517_518 NB518_517 NB0_518 NB518_0; clear hb hbox hg))
 (try simp only [Act.put, sa0, sa1, sa2])
 go_cut [32] (fun v32 wc => ∃ (kq : Nat) (x32_5 : Bool), v32 = .bool x32_5 ∧ Aside0 (mul_Ger.j0 kq a2 l3 l4 x32_5 s0_0 a1_0 a1_1 a1_2 l1_3 = some (r1, r2, r3, r4, r5, r6)) ∧ Aside0 (kq ≤ k) ∧ Aside0 (wc.heap[gb517]? = some (.cells #[.int .i64 a1_0, .int .i64 a1_1, .int .i64 a1_2, (.slice A1_3 l1_3.length c1_3)] 25 (0, 0))) ∧ Aside0 (wc.heap[gb518]? = some (.cells #[.int .i64 0, .int .i64 0, .int .i64 0, (.slice none 0 0)] 25 (0, 0))) ∧ Aside0 (IsS40 w0 wc g s0_0) ∧ Aside0 (KeepBut w wc g none) ∧ Aside0 (Below w0.heap.size w0 wc))
 case first =>
  have H := HC6.out
  clear HC6
  obtain ⟨t519, A90, H⟩ := Option.bind_eq_some_iff.mp H
  (try dsimp -simprocs only at H)
  have A9 := Aside0.mk A90
  clear A90
  by_cases c10 : t519 = 0
  ·
   rw [if_pos c10] at H
   have c10b0 : (t519 == 0) = true := beq_iff_eq.mpr c10
   have c10b1 : (t519 != 0) = false := bne_eq_false_iff_eq.mpr c10
   clear c10
   (first | rw [c10b0] | (simp only [i64_w, i32_w]; rw [c10b0]) | skip)
   by_cases c11 : a1_0 = (l3.length : Int)
   ·
    rw [if_pos c11] at H
    have c11b0 : (a1_0 == (l3.length : Int)) = true := beq_iff_eq.mpr c11
    have c11b1 : (a1_0 != (l3.length : Int)) = false := bne_eq_false_iff_eq.mpr c11
    clear c11
    have H' := Aside0.mk H
    clear H
    have hnb12 := NB517_518.out
    have hnc12 := NB518_517.out
    have hnb13 := NB517_0.out
    have hnc13 := NB0_517.out
    have hcz14_0 := bc BK517 0 rfl
    have hcz14_1 := bc BK517 1 rfl
    have hcz14_2 := bc BK517 2 rfl
    have hcz14_3 := bc BK517 3 rfl
    have hfz14_0 := blk_frozen BK517.out 0
    have hfz14_1 := blk_frozen BK517.out 1
    have hfz14_2 := blk_frozen BK517.out 2
    have hfz14_3 := blk_frozen BK517.out 3
    go_wp2_with (first | ((with_reducible refine gate_callee (f := 25) rfl ?_); refine goesL_ (some 17) rfl rfl Try.func25 (by kernel_rfl) rfl #[.agg #[.int .i64 a1_0, .int .i64 a1_1, .int .i64 a1_2, .slice A1_3 l1_3.length c1_3]] rfl ga ?_; (with_reducible refine (mat_Matrix_Check.calls k a1_0 a1_1 a1_2 _ _ l1_3 t519 _ ?side1 ?side2 A9.out).mono ?_); (case side1 => exact Kd.C_keep 0 HR1_3.out (ky HK) hf1_3); (case side2 => exact HC1_3.out); rintro e w15 ⟨rfl, hb⟩; refine ⟨_, rfl, ?_⟩; refine ax5 (IsS40.below (ss40 HI0) hb) (bb BK517 hb) (bb BK518 hb) (KeepBut.trans (ky HK) (KeepBut.of_below hb g none) (.inl rfl)) (below_step sb40 hb) ?_; clear HI0; clear BK517; clear BK518; clear HK; clear HB; intro HI0 BK517 BK518 HK HB; (try clear hb); have hcz16_0 := bc BK517 0 rfl; have hcz16_1 := bc BK517 1 rfl; have hcz16_2 := bc BK517 2 rfl; have hcz16_3 := bc BK517 3 rfl; have hfz16_0 := blk_frozen BK517.out 0; have hfz16_1 := blk_frozen BK517.out 1; have hfz16_2 := blk_frozen BK517.out 2; have hfz16_3 := blk_frozen BK517.out 3))
    go_meet
    case rel => exact ⟨_, ((a1_1 != (l4.length : Int))), (by first | rfl | (simp; done) | (simp [*]; done)), H', ⟨by first | omega | exact Nat.le_refl _⟩, ⟨kb BK517⟩, ⟨kb BK518⟩, ⟨ss40 HI0⟩, ⟨ky HK⟩, ⟨sb40⟩⟩
   ·
    rw [if_neg c11] at H
    have c11b0 : (a1_0 == (l3.length : Int)) = false := beq_eq_false_iff_ne.mpr c11
    have c11b1 : (a1_0 != (l3.length : Int)) = true := bne_iff_ne.mpr c11
    have H' := Aside0.mk H
    clear H
    have hnb17 := NB517_518.out
    have hnc17 := NB518_517.out
    have hnb18 := NB517_0.out
    have hnc18 := NB0_517.out
    have hcz19_0 := bc BK517 0 rfl
    have hcz19_1 := bc BK517 1 rfl
    have hcz19_2 := bc BK517 2 rfl
    have hcz19_3 := bc BK517 3 rfl
    have hfz19_0 := blk_frozen BK517.out 0
    have hfz19_1 := blk_frozen BK517.out 1
    have hfz19_2 := blk_frozen BK517.out 2
    have hfz19_3 := blk_frozen BK517.out 3
    go_wp2_with (first | ((with_reducible refine gate_callee (f := 25) rfl ?_); refine goesL_ (some 17) rfl rfl Try.func25 (by kernel_rfl) rfl #[.agg #[.int .i64 a1_0, .int .i64 a1_1, .int .i64 a1_2, .slice A1_3 l1_3.length c1_3]] rfl ga ?_; (with_reducible refine (mat_Matrix_Check.calls k a1_0 a1_1 a1_2 _ _ l1_3 t519 _ ?side1 ?side2 A9.out).mono ?_); (case side1 => exact Kd.C_keep 0 HR1_3.out (ky HK) hf1_3); (case side2 => exact HC1_3.out); rintro e w20 ⟨rfl, hb⟩; refine ⟨_, rfl, ?_⟩; refine ax5 (IsS40.below (ss40 HI0) hb) (bb BK517 hb) (bb BK518 hb) (KeepBut.trans (ky HK) (KeepBut.of_below hb g none) (.inl rfl)) (below_step sb40 hb) ?_; clear HI0; clear BK517; clear BK518; clear HK; clear HB; intro HI0 BK517 BK518 HK HB; (try clear hb); have hcz21_0 := bc BK517 0 rfl; have hcz21_1 := bc BK517 1 rfl; have hcz21_2 := bc BK517 2 rfl; have hcz21_3 := bc BK517 3 rfl; have hfz21_0 := blk_frozen BK517.out 0; have hfz21_1 := blk_frozen BK517.out 1; have hfz21_2 := blk_frozen BK517.out 2; have hfz21_3 := blk_frozen BK517.out 3))
    go_meet
    case rel => exact ⟨_, (true), (by first | rfl | (simp; done) | (simp [*]; done)), H', ⟨by first | omega | exact Nat.le_refl _⟩, ⟨kb BK517⟩, ⟨kb BK518⟩, ⟨ss40 HI0⟩, ⟨ky HK⟩, ⟨sb40⟩⟩
  ·
   rw [if_neg c10] at H
   have c10b0 : (t519 == 0) = false := beq_eq_false_iff_ne.mpr c10
   have c10b1 : (t519 != 0) = true := bne_iff_ne.mpr c10
   (first | rw [c10b0] | (simp only [i64_w, i32_w]; rw [c10b0]) | skip)
   have H' := Aside0.mk H
   clear H
   have hnb22 := NB517_518.out
   have hnc22 := NB518_517.out
   have hnb23 := NB517_0.out
   have hnc23 := NB0_517.out
   have hcz24_0 := bc BK517 0 rfl
   have hcz24_1 := bc BK517 1 rfl
   have hcz24_2 := bc BK517 2 rfl
   have hcz24_3 := bc BK517 3 rfl
   have hfz24_0 := blk_frozen BK517.out 0
   have hfz24_1 := blk_frozen BK517.out 1
   have hfz24_2 := blk_frozen BK517.out 2
   have hfz24_3 := blk_frozen BK517.out 3
   go_wp2_with (first | ((with_reducible refine gate_callee (f := 25) rfl ?_); refine goesL_ (some 17) rfl rfl Try.func25 (by kernel_rfl) rfl #[.agg #[.int .i64 a1_0, .int .i64 a1_1, .int .i64 a1_2, .slice A1_3 l1_3.length c1_3]] rfl ga ?_; (with_reducible refine (mat_Matrix_Check.calls k a1_0 a1_1 a1_2 _ _ l1_3 t519 _ ?side1 ?side2 A9.out).mono ?_); (case side1 => exact Kd.C_keep 0 HR1_3.out (ky HK) hf1_3); (case side2 => exact HC1_3.out); rintro e w25 ⟨rfl, hb⟩; refine ⟨_, rfl, ?_⟩; refine ax5 (IsS40.below (ss40 HI0) hb) (bb BK517 hb) (bb BK518 hb) (KeepBut.trans (ky HK) (KeepBut.of_below hb g none) (.inl rfl)) (below_step sb40 hb) ?_; clear HI0; clear BK517; clear BK518; clear HK; clear HB; intro HI0 BK517 BK518 HK HB; (try clear hb)))
   go_meet
   case rel => exact ⟨_, (true), (by first | rfl | (simp; done) | (simp [*]; done)), H', ⟨by first | omega | exact Nat.le_refl _⟩, ⟨kb BK517⟩, ⟨kb BK518⟩, ⟨ss40 HI0⟩, ⟨ky HK⟩, ⟨sb40⟩⟩
 case rest =>
  clear HC6
  try clear c1
  try clear c2
  try clear p2
  try clear c3
  try clear c4
  try clear c10
  try clear c10b0
  try clear c10b1
  try clear c11
  try clear c11b0
  try clear c11b1
  try clear c12
  try clear c13
  try clear c15
  try clear c17
  try clear c18
  try clear c22
  try clear c23
  try clear c25
  try clear hcz14_0
  try clear hcz14_1
  try clear hcz14_2
  try clear hcz14_3
  try clear hcz16_0
  try clear hcz16_1
  try clear hcz16_2
  try clear hcz16_3
  try clear hcz19_0
  try clear hcz19_1
  try clear hcz19_2
  try clear hcz19_3
  try clear hcz21_0
  try clear hcz21_1
  try clear hcz21_2
  try clear hcz21_3
  try clear hcz24_0
  try clear hcz24_1
  try clear hcz24_2
  try clear hcz24_3
  try clear hfz14_0
  try clear hfz14_1
  try clear hfz14_2
  try clear hfz14_3
  try clear hfz16_0
  try clear hfz16_1
  try clear hfz16_2
  try clear hfz16_3
  try clear hfz19_0
  try clear hfz19_1
  try clear hfz19_2
  try clear hfz19_3
  try clear hfz21_0
  try clear hfz21_1
  try clear hfz21_2
  try clear hfz21_3
  try clear hfz24_0
  try clear hfz24_1
  try clear hfz24_2
  try clear hfz24_3
  obtain ⟨kq, x32_5, rfl, HA, HJ5, BK517, BK518, HI0, HK, HB⟩ := hcut
  cases kq with
  | zero => exact absurd HA.out (by simp [mul_Ger.j0])
  | succ kj5 =>
   have H := HA.out
   clear HA
   simp only [mul_Ger.j0] at H
   by_cases c26 : x32_5 = true
   ·
    subst c26
    rw [if_pos rfl] at H
    simp only [Option.some.injEq, Prod.mk.injEq] at H
    obtain ⟨rfl, rfl, rfl, rfl, rfl, rfl⟩ := H
    have hnb27 := NB518_517.out
    have hnc27 := NB517_518.out
    have hnb28 := NB518_0.out
    have hnc28 := NB0_518.out
    have hcz29_0 := bc BK518 0 rfl
    have hcz29_1 := bc BK518 1 rfl
    have hcz29_2 := bc BK518 2 rfl
    have hcz29_3 := bc BK518 3 rfl
    have hfz29_0 := blk_frozen BK518.out 0
    have hfz29_1 := blk_frozen BK518.out 1
    have hfz29_2 := blk_frozen BK518.out 2
    have hfz29_3 := blk_frozen BK518.out 3
    go_wp2
    refine bodyPost_ret (results_ct rfl _ _ gb518 25 #[.int .i64 0, .int .i64 0, .int .i64 0, .slice none 0 0] (0, 0) _ rfl (bp BK518) Try.underlying25 rfl (by kernel_rfl)) rfl ?_
    exact ⟨_, er, by first | exact Kd.R_nil _ _ _ _ _ | exact Kd.N_nil _ _ _ _ _ | exact Kd.V_nil _ _ _ _ _ | exact Kd.Q_nil _ _ _ _ _ | exact Kd.S_nil _ _ _ _ _, by repeat (first | (with_reducible first | exact HI0.out | apply IsS40.alloc | apply IsS40.drewN | apply IsS40.drew | apply IsS40.set_0 | refine IsS40.far ?_ NB0_517.out _ | refine IsS40.far ?_ NB0_518.out _) | exact HI0.out), by repeat (first | (with_reducible first | exact HB.out | apply below_alloc | apply pw_below_drewN | apply below_drew1 | refine below_set ?_ (IsS40.ge HI0.out) | refine below_set ?_ GE517.out | refine below_set ?_ GE518.out) | exact HB.out), by repeat (first | (with_reducible first | exact HK.out | apply KeepBut.set_ | apply keep_drewN | apply keep_drew | apply keep_alloc | refine keep_far ?_ GW517.out _ | refine keep_far ?_ GW518.out _) | exact HK.out)⟩
   ·
    replace c26 := Bool.eq_false_iff.mpr c26
    subst c26
    rw [if_neg (show ¬ (false = true) by decide)] at H
    obtain ⟨⟨t520, t521, t522, t523⟩, A300, H⟩ := Option.bind_eq_some_iff.mp H
    (try dsimp -simprocs only at H)
    have A30 := Aside0.mk A300
    clear A300
    have H' := Aside0.mk H
    clear H
    have hnb31 := NB517_518.out
    have hnc31 := NB518_517.out
    have hnb32 := NB517_0.out
    have hnc32 := NB0_517.out
    have hcz33_0 := bc BK517 0 rfl
    have hcz33_1 := bc BK517 1 rfl
    have hcz33_2 := bc BK517 2 rfl
    have hcz33_3 := bc BK517 3 rfl
    have hfz33_0 := blk_frozen BK517.out 0
    have hfz33_1 := blk_frozen BK517.out 1
    have hfz33_2 := blk_frozen BK517.out 2
    have hfz33_3 := blk_frozen BK517.out 3
    go_wp2_with (first | ((with_reducible refine gate_callee (f := 26) rfl ?_); refine goesL_ (some 35) rfl rfl Try.func26 (by kernel_rfl) rfl #[.agg #[.int .i64 a1_0, .int .i64 a1_1, .int .i64 a1_2, .slice A1_3 l1_3.length c1_3]] rfl ga ?_; (with_reducible refine (mat_Matrix_Clone.calls kj5 a1_0 a1_1 a1_2 _ _ l1_3 t520 t521 t522 t523 _ ?side1 ?side2 A30.out).mono ?_); (case side1 => exact Kd.C_keep 0 HR1_3.out (ky HK) hf1_3); (case side2 => exact HC1_3.out); rintro e w34 ⟨v524, rfl, ho0, hb⟩; refine ⟨_, rfl, ?_⟩; refine ax6 (Kd.R_lower ho0 (keep_size (w := w) (g := g) (row := none) (ky HK))) (bb BK517 hb) (bb BK518 hb) (IsS40.below (ss40 HI0) hb) (KeepBut.trans (ky HK) (KeepBut.of_below hb g none) (.inl rfl)) (below_step sb40 hb) ?_; clear BK517; clear BK518; clear HI0; clear HK; clear HB; intro HO525 BK517 BK518 HI0 HK HB; (try clear hb); (try clear ho0)) | ((with_reducible refine gate_dst (N := 12) rfl ?_); refine gbox (N := 12) (cs := #[.int .i64 0, .int .i64 0, .int .i64 0, .slice none 0 0]) (t := 25) ?_; intro gb526 hg w35 hbox hb; refine ax15 (Kd.R_below (kr HO525) hb) (bb BK517 hb) (bb BK518 hb) (IsS40.below (ss40 HI0) hb) (KeepBut.trans (ky HK) (KeepBut.of_below hb g none) (.inl rfl)) (below_step sb40 hb) hbox ((by rw [hg]; exact (keep_size (w := w) (g := g) (row := none) (ky HK)) : w.heap.size ≤ gb526)) ((Nat.le_trans HW0.out (by rw [hg]; exact (keep_size (w := w) (g := g) (row := none) (ky HK)) : w.heap.size ≤ gb526) : w0.heap.size ≤ gb526)) (nl hg BK517) (ng hg BK517) (nl hg BK518) (ng hg BK518) ((by rw [hg]; exact Nat.ne_of_lt (IsS40.lt (show IsS40 w0 _ g s0_0 from ss40 HI0)) : g ≠ gb526)) ((by rw [hg]; exact Nat.ne_of_gt (IsS40.lt (show IsS40 w0 _ g s0_0 from ss40 HI0)) : gb526 ≠ g)) ?_; clear HO525; clear BK517; clear BK518; clear HI0; clear HK; clear HB; intro HO525 BK517 BK518 HI0 HK HB BK526 GW526 GE526 NB517_526 NB526_517 NB518_526 NB526_518 NB0_526 NB526_0; clear hb hbox hg; have hnb36 := NB526_517.out; have hnc36 := NB517_526.out; have hnb37 := NB526_518.out; have hnc37 := NB518_526.out; have hnb38 := NB526_0.out; have hnc38 := NB0_526.out; have hcz39_0 := bc BK526 0 rfl; have hcz39_1 := bc BK526 1 rfl; have hcz39_2 := bc BK526 2 rfl; have hcz39_3 := bc BK526 3 rfl; have hfz39_0 := blk_frozen BK526.out 0; have hfz39_1 := blk_frozen BK526.out 1; have hfz39_2 := blk_frozen BK526.out 2; have hfz39_3 := blk_frozen BK526.out 3; obtain ⟨Ao40, co40, eo40⟩ := Kd.R_slice HO525.out; subst eo40))
    go_loopg [38] kj5 (fun kq v38 w' => ∃ (x38_2 : Int) (x1000_2 : Int) (x527003_2 : List Int) (u527003 : Value), v38 = .int .i64 x38_2 ∧ Aside0 (mul_Ger.l0 kq a2 l3 l4 t520 x38_2 x1000_2 t520 t521 t522 x527003_2 = some (r1, r2, r3, r4, r5, r6)) ∧ Aside0 (kq ≤ kj5) ∧ Aside0 (Kd.R (Kd.int .u64) 33 w' w.heap.size (fun _ => True) u527003 x527003_2) ∧ Aside0 (w'.heap[gb517]? = some (.cells #[.int .i64 a1_0, .int .i64 a1_1, .int .i64 a1_2, (.slice A1_3 l1_3.length c1_3)] 25 (0, 0))) ∧ Aside0 (w'.heap[gb518]? = some (.cells #[.int .i64 0, .int .i64 0, .int .i64 0, (.slice none 0 0)] 25 (0, 0))) ∧ Aside0 (w'.heap[gb526]? = some (.cells #[.int .i64 t520, .int .i64 t521, .int .i64 t522, u527003] 25 (0, 0))) ∧ Aside0 (IsS40 w0 w' g x1000_2) ∧ Aside0 (KeepBut w w' g none) ∧ Aside0 (Below w0.heap.size w0 w'))
    case atStart => exact ⟨(0), (s0_0), (t523), (.slice Ao40 t523.length co40), (by first | rfl | (simp; done) | (simp [*]; done)), H', ⟨Nat.le_refl _⟩, ⟨by (with_reducible repeat (first | apply Kd.R_alloc | apply Kd.R_drewN | apply Kd.R_drew)); exact Kd.R_mono (Kd.R_far (p := ⟨gb526, 3, none⟩) (Kd.R_far (p := ⟨gb526, 2, none⟩) (Kd.R_far (p := ⟨gb526, 1, none⟩) (Kd.R_far (p := ⟨gb526, 0, none⟩) (Kd.R_types HO525.out BK526.out (by decide)) (fun _ hk => hk.2) (.int .i64 t520)) (fun _ hk => hk.2) (.int .i64 t521)) (fun _ hk => hk.2) (.int .i64 t522)) (fun _ hk => hk.2) (.slice Ao40 t523.length co40)) (fun _ hk => trivial)⟩, ⟨bf BK517 NB517_526⟩, ⟨bf BK518 NB518_526⟩, ⟨bp BK526⟩, ⟨ss40 HI0⟩, ⟨ky HK⟩, ⟨sb40⟩⟩
    case round =>
     clear H'
     try clear c1
     try clear c2
     try clear p2
     try clear c3
     try clear c4
     try clear c10
     try clear c10b0
     try clear c10b1
     try clear c11
     try clear c11b0
     try clear c11b1
     try clear c12
     try clear c13
     try clear c15
     try clear c17
     try clear c18
     try clear c22
     try clear c23
     try clear c25
     try clear c26
     try clear c27
     try clear c28
     try clear c31
     try clear c32
     try clear c36
     try clear c37
     try clear c38
     try clear hcz14_0
     try clear hcz14_1
     try clear hcz14_2
     try clear hcz14_3
     try clear hcz16_0
     try clear hcz16_1
     try clear hcz16_2
     try clear hcz16_3
     try clear hcz19_0
     try clear hcz19_1
     try clear hcz19_2
     try clear hcz19_3
     try clear hcz21_0
     try clear hcz21_1
     try clear hcz21_2
     try clear hcz21_3
     try clear hcz24_0
     try clear hcz24_1
     try clear hcz24_2
     try clear hcz24_3
     try clear hcz29_0
     try clear hcz29_1
     try clear hcz29_2
     try clear hcz29_3
     try clear hcz33_0
     try clear hcz33_1
     try clear hcz33_2
     try clear hcz33_3
     try clear hcz39_0
     try clear hcz39_1
     try clear hcz39_2
     try clear hcz39_3
     try clear hfz14_0
     try clear hfz14_1
     try clear hfz14_2
     try clear hfz14_3
     try clear hfz16_0
     try clear hfz16_1
     try clear hfz16_2
     try clear hfz16_3
     try clear hfz19_0
     try clear hfz19_1
     try clear hfz19_2
     try clear hfz19_3
     try clear hfz21_0
     try clear hfz21_1
     try clear hfz21_2
     try clear hfz21_3
     try clear hfz24_0
     try clear hfz24_1
     try clear hfz24_2
     try clear hfz24_3
     try clear hfz29_0
     try clear hfz29_1
     try clear hfz29_2
     try clear hfz29_3
     try clear hfz33_0
     try clear hfz33_1
     try clear hfz33_2
     try clear hfz33_3
     try clear hfz39_0
     try clear hfz39_1
     try clear hfz39_2
     try clear hfz39_3
     try clear p2
     obtain ⟨x38_2, x1000_2, x527003_2, u527003, rfl, HA, HK2, HO_527003, BK517, BK518, BK526, HI0, HK, HB⟩ := hrel
     cases gk with
     | zero => exact absurd HA.out (by simp [mul_Ger.l0])
     | succ k2 =>
      have H := HA.out
      clear HA
      simp only [mul_Ger.l0] at H
      by_cases c41 : x38_2 < t520
      ·
       rw [if_pos c41] at H
       have c41b0 : decide (x38_2 < t520) = true := decide_eq_true c41
       clear c41
       by_cases c42 : 0 ≤ x38_2
       rotate_left
       ·
        rw [if_neg c42] at H
        exact absurd H (by simp)
       rw [if_pos c42] at H
       have c42b0 : decide (0 ≤ x38_2) = true := decide_eq_true c42
       clear c42
       by_cases c43 : x38_2 < (l3.length : Int)
       rotate_left
       ·
        rw [if_neg c43] at H
        exact absurd H (by simp)
       rw [if_pos c43] at H
       have c43b0 : decide (x38_2 < (l3.length : Int)) = true := decide_eq_true c43
       clear c43
       obtain ⟨⟨t528, t529⟩, A440, H⟩ := Option.bind_eq_some_iff.mp H
       (try dsimp -simprocs only at H)
       have A44 := Aside0.mk A440
       clear A440
       have H' := Aside0.mk H
       clear H
       have p527 : 0 ≤ (x38_2 : Int) := of_decide_eq_true (by first | (with_reducible assumption) | assumption)
       have q527 : x38_2 < (l3.length : Int) := of_decide_eq_true (by first | (with_reducible assumption) | assumption)
       obtain ⟨ad527, e527, hx527_0⟩ := Kd.at_int HR3.out x38_2 p527 q527
       cases e527
       replace hx527_0 := keep_cell HK.out hx527_0 (by first | (rw [add_block]; exact hf3 _ rfl (by omega)) | exact hf3 _ rfl (by omega) | exact hf3 ad527 rfl (by omega))
       replace p527 := eq_true p527
       replace q527 := eq_true q527
       go_wp2_with (first | ((with_reducible refine gate_callee (f := 18) rfl ?_); refine goesL_ (some 47) rfl rfl Try.func18 (by kernel_rfl) rfl #[.pointer (some ⟨g, 0, none⟩), .int .u64 a2, .int .u64 (rd l3 x38_2)] rfl ga ?_; (with_reducible refine (soft_Calc_Mul.calls k2 g x1000_2 a2 (rd l3 x38_2) t528 t529 w0 _ ?side1 ?side2 A44.out).mono ?_); (case side1 => repeat (first | (with_reducible first | exact HI0.out | apply IsS40.alloc | apply IsS40.drewN | apply IsS40.drew | apply IsS40.set_0 | refine IsS40.far ?_ NB0_517.out _ | refine IsS40.far ?_ NB0_518.out _ | refine IsS40.far ?_ NB0_526.out _) | exact HI0.out)); (case side2 => repeat (first | (with_reducible first | exact HB.out | apply below_alloc | apply pw_below_drewN | apply below_drew1 | refine below_set ?_ (IsS40.ge HI0.out) | refine below_set ?_ GE517.out | refine below_set ?_ GE518.out | refine below_set ?_ GE526.out) | exact HB.out)); rintro e w45 ⟨rfl, hi, hb, hk⟩; refine ⟨_, rfl, ?_⟩; refine ax7 (Kd.R_mono (Kd.R_keep (IsS40.apart (show IsS40 w0 _ g x1000_2 from ss40 HI0) (kr HO_527003) (by decide)) hk (fun _ h => h.2)) (fun _ h => h.1)) (KeepBut.blk hk (g' := gb517) (o := .cells #[.int .i64 a1_0, .int .i64 a1_1, .int .i64 a1_2, .slice A1_3 l1_3.length c1_3] 25 (0, 0)) (kb BK517) NB517_0.out (by simp)) (KeepBut.blk hk (g' := gb518) (o := .cells #[.int .i64 0, .int .i64 0, .int .i64 0, .slice none 0 0] 25 (0, 0)) (kb BK518) NB518_0.out (by simp)) (KeepBut.blk hk (g' := gb526) (o := .cells #[.int .i64 t520, .int .i64 t521, .int .i64 t522, u527003] 25 (0, 0)) (kb BK526) NB526_0.out (by simp)) (KeepBut.trans (ky HK) hk (.inl rfl)) hb hi ?_; clear HO_527003; clear BK517; clear BK518; clear BK526; clear HK; clear HB; clear HI0; intro HO_527003 BK517 BK518 BK526 HK HB HI0; (try clear hb); have hnb46 := NB526_517.out; have hnc46 := NB517_526.out; have hnb47 := NB526_518.out; have hnc47 := NB518_526.out; have hnb48 := NB526_0.out; have hnc48 := NB0_526.out; have hcz49_0 := bc BK526 0 rfl; have hcz49_1 := bc BK526 1 rfl; have hcz49_2 := bc BK526 2 rfl; have hcz49_3 := bc BK526 3 rfl; have hfz49_0 := blk_frozen BK526.out 0; have hfz49_1 := blk_frozen BK526.out 1; have hfz49_2 := blk_frozen BK526.out 2; have hfz49_3 := blk_frozen BK526.out 3))
       go_loopg [50] k2 (fun kq v50 w' => ∃ (x50_3 : Int) (x1000_3 : Int) (x527003_3 : List Int) (u527003 : Value), v50 = .int .i64 x50_3 ∧ Aside0 (mul_Ger.l1 kq a2 l3 l4 x38_2 t528 t520 x38_2 t521 x50_3 x1000_3 t520 t521 t522 x527003_3 = some (r1, r2, r3, r4, r5, r6)) ∧ Aside0 (kq ≤ k2) ∧ Aside0 (Kd.R (Kd.int .u64) 33 w' w.heap.size (fun _ => True) u527003 x527003_3) ∧ Aside0 (w'.heap[gb517]? = some (.cells #[.int .i64 a1_0, .int .i64 a1_1, .int .i64 a1_2, (.slice A1_3 l1_3.length c1_3)] 25 (0, 0))) ∧ Aside0 (w'.heap[gb518]? = some (.cells #[.int .i64 0, .int .i64 0, .int .i64 0, (.slice none 0 0)] 25 (0, 0))) ∧ Aside0 (w'.heap[gb526]? = some (.cells #[.int .i64 t520, .int .i64 t521, .int .i64 t522, u527003] 25 (0, 0))) ∧ Aside0 (IsS40 w0 w' g x1000_3) ∧ Aside0 (KeepBut w w' g none) ∧ Aside0 (Below w0.heap.size w0 w'))
       case atStart => exact ⟨(0), (t529), (x527003_2), (u527003), (by first | rfl | (simp; done) | (simp [*]; done)), H', ⟨Nat.le_refl _⟩, ⟨kr HO_527003⟩, ⟨kb BK517⟩, ⟨kb BK518⟩, ⟨kb BK526⟩, ⟨ss40 HI0⟩, ⟨ky HK⟩, ⟨sb40⟩⟩
       case round =>
        clear H'
        try clear c1
        try clear c2
        try clear p2
        try clear c3
        try clear c4
        try clear p5
        try clear q5
        try clear hx5
        try clear c10
        try clear c10b0
        try clear c10b1
        try clear c11
        try clear c11b0
        try clear c11b1
        try clear c12
        try clear c13
        try clear c15
        try clear c17
        try clear c18
        try clear c22
        try clear c23
        try clear c25
        try clear c26
        try clear c27
        try clear c28
        try clear c31
        try clear c32
        try clear c36
        try clear c37
        try clear c38
        try clear c41
        try clear c41b0
        try clear c42
        try clear c42b0
        try clear c43
        try clear c43b0
        try clear c46
        try clear c47
        try clear c48
        try clear hcz14_0
        try clear hcz14_1
        try clear hcz14_2
        try clear hcz14_3
        try clear hcz16_0
        try clear hcz16_1
        try clear hcz16_2
        try clear hcz16_3
        try clear hcz19_0
        try clear hcz19_1
        try clear hcz19_2
        try clear hcz19_3
        try clear hcz21_0
        try clear hcz21_1
        try clear hcz21_2
        try clear hcz21_3
        try clear hcz24_0
        try clear hcz24_1
        try clear hcz24_2
        try clear hcz24_3
        try clear hcz29_0
        try clear hcz29_1
        try clear hcz29_2
        try clear hcz29_3
        try clear hcz33_0
        try clear hcz33_1
        try clear hcz33_2
        try clear hcz33_3
        try clear hcz39_0
        try clear hcz39_1
        try clear hcz39_2
        try clear hcz39_3
        try clear hcz49_0
        try clear hcz49_1
        try clear hcz49_2
        try clear hcz49_3
        try clear hfz14_0
        try clear hfz14_1
        try clear hfz14_2
        try clear hfz14_3
        try clear hfz16_0
        try clear hfz16_1
        try clear hfz16_2
        try clear hfz16_3
        try clear hfz19_0
        try clear hfz19_1
        try clear hfz19_2
        try clear hfz19_3
        try clear hfz21_0
        try clear hfz21_1
        try clear hfz21_2
        try clear hfz21_3
        try clear hfz24_0
        try clear hfz24_1
        try clear hfz24_2
        try clear hfz24_3
        try clear hfz29_0
        try clear hfz29_1
        try clear hfz29_2
        try clear hfz29_3
        try clear hfz33_0
        try clear hfz33_1
        try clear hfz33_2
        try clear hfz33_3
        try clear hfz39_0
        try clear hfz39_1
        try clear hfz39_2
        try clear hfz39_3
        try clear hfz49_0
        try clear hfz49_1
        try clear hfz49_2
        try clear hfz49_3
        try clear hx527_0
        try clear p2
        try clear p527
        try clear q527
        obtain ⟨x50_3, x1000_3, x527003_3, u527003, rfl, HA, HK3, HO_527003, BK517, BK518, BK526, HI0, HK, HB⟩ := hrel
        cases gk with
        | zero => exact absurd HA.out (by simp [mul_Ger.l1])
        | succ k3 =>
         have H := HA.out
         clear HA
         simp only [mul_Ger.l1] at H
         by_cases c50 : x50_3 < t521
         rotate_left
         ·
          rw [if_neg c50] at H
          have c50b0 : decide (x50_3 < t521) = false := decide_eq_false c50
          clear c50
          have H' := Aside0.mk H
          clear H
          go_wp2
          go_roundg k3
          case measure => have := HJ5.out; have := HK2.out; have := HK3.out; omega
          case rel => exact ⟨(wrap64 (x38_2 + 1)), (x1000_3), (x527003_3), (u527003), (by first | rfl | (simp; done) | (simp [*]; done)), H', ⟨by have := HJ5.out; have := HK2.out; have := HK3.out; omega⟩, ⟨kr HO_527003⟩, ⟨kb BK517⟩, ⟨kb BK518⟩, ⟨kb BK526⟩, ⟨ss40 HI0⟩, ⟨ky HK⟩, ⟨sb40⟩⟩
         rw [if_pos c50] at H
         have c50b0 : decide (x50_3 < t521) = true := decide_eq_true c50
         clear c50
         obtain ⟨t530, A510, H⟩ := Option.bind_eq_some_iff.mp H
         (try dsimp -simprocs only at H)
         have A51 := Aside0.mk A510
         clear A510
         by_cases c52 : 0 ≤ x50_3
         rotate_left
         ·
          rw [if_neg c52] at H
          exact absurd H (by simp)
         rw [if_pos c52] at H
         have c52b0 : decide (0 ≤ x50_3) = true := decide_eq_true c52
         clear c52
         by_cases c53 : x50_3 < (l4.length : Int)
         rotate_left
         ·
          rw [if_neg c53] at H
          exact absurd H (by simp)
         rw [if_pos c53] at H
         have c53b0 : decide (x50_3 < (l4.length : Int)) = true := decide_eq_true c53
         clear c53
         obtain ⟨⟨t532, t533⟩, A540, H⟩ := Option.bind_eq_some_iff.mp H
         (try dsimp -simprocs only at H)
         have A54 := Aside0.mk A540
         clear A540
         obtain ⟨⟨t534, t535⟩, A550, H⟩ := Option.bind_eq_some_iff.mp H
         (try dsimp -simprocs only at H)
         have A55 := Aside0.mk A550
         clear A550
         obtain ⟨t536, A560, H⟩ := Option.bind_eq_some_iff.mp H
         (try dsimp -simprocs only at H)
         have A56 := Aside0.mk A560
         clear A560
         have H' := Aside0.mk H
         clear H
         try go_wp2
         refine ax7 (Kd.R_drew HO_527003.out) (blk_drew BK517.out) (blk_drew BK518.out) (blk_drew BK526.out) (IsS40.drew HI0.out) (keep_drew HK.out) (below_drew1 HB.out) ?_
         clear HO_527003 BK517 BK518 BK526 HI0 HK HB
         intro HO_527003 BK517 BK518 BK526 HI0 HK HB
         have p531 : 0 ≤ (x50_3 : Int) := of_decide_eq_true (by first | (with_reducible assumption) | assumption)
         have q531 : x50_3 < (l4.length : Int) := of_decide_eq_true (by first | (with_reducible assumption) | assumption)
         obtain ⟨ad531, e531, hx531_0⟩ := Kd.at_int HR4.out x50_3 p531 q531
         have hw531_0 := hx531_0
         cases e531
         have hne531_0 := (show ((ad531.add (x50_3).toNat) : Addr).block ≠ g from by first | (rw [add_block]; exact hf4 ad531 rfl (by omega)) | (show (Addr.add _ _).block ≠ _; rw [add_block]; exact hf4 ad531 rfl (by omega)) | exact hf4 ad531 rfl (by omega))
         replace hx531_0 := keep_cell HK.out hx531_0 (by first | (rw [add_block]; exact hf4 _ rfl (by omega)) | exact hf4 _ rfl (by omega) | exact hf4 ad531 rfl (by omega))
         replace p531 := eq_true p531
         replace q531 := eq_true q531
         obtain ⟨Ao58, co58, eo58⟩ := Kd.R_slice HO_527003.out
         (first | subst eo58 | (injection eo58 with f1_ f2_ f3_; have f4_ := f1_.symm; have f5_ := f3_.symm; clear f1_ f2_ f3_; subst f4_; subst f5_))
         refine start_ (n := 17) (S := fun w' => w'.cell? ⟨gb526, 0, none⟩ = some (.int .i64 t520) ∧ w'.cell? ⟨gb526, 1, none⟩ = some (.int .i64 t521) ∧ w'.cell? ⟨gb526, 2, none⟩ = some (.int .i64 t522) ∧ w'.cell? ⟨gb526, 3, none⟩ = some (.slice Ao58 x527003_3.length co58) ∧ w'.cell? (ad531.add (x50_3).toNat) = some (.int .u64 (rd l4 x50_3))) (ds := []) #[false, false, false, false, false, false, false, false, false, false, false, false, false, false, false, false, false] (by kernel_rfl) rfl rfl ⟨bk BK526 0, bk BK526 1, bk BK526 2, bk BK526 3, (keep_cell HK.out hw531_0 hne531_0)⟩ (fun hHeld => ?_); refine with_tabW mul_Ger.tab11 mul_Ger.bits11 (fun HT_ HW_ => ?_)
         generalize wr.drew = w57 at HO_527003 BK517 BK518 BK526 HI0 HK HB hx531_0 hHeld ⊢
         refine pu 1 54 (lm 17 2) HT_ ?_
         refine pu 2 55 (lm 17 6) HT_ ?_
         refine pu 3 56 (lm 17 14) HT_ ?_
         refine pu 5 58 (lm 17 46) HT_ ?_
         refine pu 6 59 (lm 17 110) HT_ ?_
         refine pu 8 61 (lm 17 366) HT_ ?_
         refine pu 9 62 (lm 17 878) HT_ ?_
         refine pu 10 63 (lm 17 1902) HT_ ?_
         refine pu 11 64 (lm 17 3950) HT_ ?_
         refine pu 12 65 (lm 17 8046) HT_ ?_
         refine ta 0 53 (lm 17 8047) HT_ HW_ hHeld ?_
         refine ta 4 57 (lm 17 8063) HT_ HW_ hHeld ?_
         refine ta 13 66 (lm 17 16255) HT_ HW_ hHeld ?_
         refine on 7 (some 60) (lm 17 16383) HT_ (fun K hK => ?_)
         refine goes_ Try.func17 (by kernel_rfl) rfl #[.agg #[.int .i64 t520, .int .i64 t521, .int .i64 t522, .slice Ao58 x527003_3.length co58], .int .i64 x38_2, .int .i64 x50_3] (by rfl) rfl rfl ga ?_
         with_reducible refine (mat_Matrix_At.calls t520 t521 t522 _ _ x527003_3 x38_2 x50_3 t530 _ ?side1 ?side2 A51.out).mono ?_
         (case side1 => exact ks HO_527003)
         (case side2 => exact (Kd.R_reads' HO_527003.out).2.1)
         rintro e w59 ⟨rfl, hb⟩
         refine ⟨_, rfl, ?_⟩
         refine ax7 (Kd.R_below (kr HO_527003) hb) (bb BK517 hb) (bb BK518 hb) (bb BK526 hb) (IsS40.below (ss40 HI0) hb) (KeepBut.trans (ky HK) (KeepBut.of_below hb g none) (.inl rfl)) (below_step sb40 hb) ?_
         clear HO_527003 BK517 BK518 BK526 HI0 HK HB
         intro HO_527003 BK517 BK518 BK526 HI0 HK HB
         (try clear hb)
         (try clear hb2)
         (try clear hk)
         (try clear hi)
         refine hK.out _ _ ⟨bk BK526 0, bk BK526 1, bk BK526 2, bk BK526 3, (keep_cell HK.out hw531_0 hne531_0)⟩ (fun hHeld => ?_)
         clear hK K
         refine no 60 ?_
         refine on 14 (some 67) (lm 17 32767) HT_ (fun K hK => ?_)
         refine goes_ Try.func18 (by kernel_rfl) rfl #[.pointer (some ⟨g, 0, none⟩), .int .u64 t528, .int .u64 (rd l4 x50_3)] (by rfl) rfl rfl ga ?_
         with_reducible refine (soft_Calc_Mul.calls k3 g x1000_3 t528 (rd l4 x50_3) t532 t533 w0 _ ?side1 ?side2 A54.out).mono ?_
         (case side1 => repeat (first | (with_reducible first | exact HI0.out | apply IsS40.alloc | apply IsS40.drewN | apply IsS40.drew | apply IsS40.set_0 | refine IsS40.far ?_ NB0_517.out _ | refine IsS40.far ?_ NB0_518.out _ | refine IsS40.far ?_ NB0_526.out _) | exact HI0.out))
         (case side2 => repeat (first | (with_reducible first | exact HB.out | apply below_alloc | apply pw_below_drewN | apply below_drew1 | refine below_set ?_ (IsS40.ge HI0.out) | refine below_set ?_ GE517.out | refine below_set ?_ GE518.out | refine below_set ?_ GE526.out) | exact HB.out))
         rintro e w60 ⟨rfl, hi, hb, hk⟩
         refine ⟨_, rfl, ?_⟩
         refine ax7 (Kd.R_mono (Kd.R_keep (IsS40.apart (show IsS40 w0 _ g x1000_3 from ss40 HI0) (kr HO_527003) (by decide)) hk (fun _ h => h.2)) (fun _ h => h.1)) (KeepBut.blk hk (g' := gb517) (o := .cells #[.int .i64 a1_0, .int .i64 a1_1, .int .i64 a1_2, .slice A1_3 l1_3.length c1_3] 25 (0, 0)) (kb BK517) NB517_0.out (by simp)) (KeepBut.blk hk (g' := gb518) (o := .cells #[.int .i64 0, .int .i64 0, .int .i64 0, .slice none 0 0] 25 (0, 0)) (kb BK518) NB518_0.out (by simp)) (KeepBut.blk hk (g' := gb526) (o := .cells #[.int .i64 t520, .int .i64 t521, .int .i64 t522, .slice Ao58 x527003_3.length co58] 25 (0, 0)) (kb BK526) NB526_0.out (by simp)) (KeepBut.trans (ky HK) hk (.inl rfl)) hb hi ?_
         clear HO_527003 BK517 BK518 BK526 HK HB HI0
         intro HO_527003 BK517 BK518 BK526 HK HB HI0
         (try clear hb)
         (try clear hb2)
         (try clear hk)
         (try clear hi)
         refine hK.out _ _ ⟨bk BK526 0, bk BK526 1, bk BK526 2, bk BK526 3, (keep_cell HK.out hw531_0 hne531_0)⟩ (fun hHeld => ?_)
         clear hK K
         refine no 67 ?_
         refine on 15 (some 68) (lm 17 65535) HT_ (fun K hK => ?_)
         refine goes_ Try.func19 (by kernel_rfl) rfl #[.pointer (some ⟨g, 0, none⟩), .int .u64 t530, .int .u64 t532] (by rfl) rfl rfl ga ?_
         with_reducible refine (soft_Calc_Add.calls k3 g t533 t530 t532 t534 t535 w0 _ ?side1 ?side2 A55.out).mono ?_
         (case side1 => repeat (first | (with_reducible first | exact HI0.out | apply IsS40.alloc | apply IsS40.drewN | apply IsS40.drew | apply IsS40.set_0 | refine IsS40.far ?_ NB0_517.out _ | refine IsS40.far ?_ NB0_518.out _ | refine IsS40.far ?_ NB0_526.out _) | exact HI0.out))
         (case side2 => repeat (first | (with_reducible first | exact HB.out | apply below_alloc | apply pw_below_drewN | apply below_drew1 | refine below_set ?_ (IsS40.ge HI0.out) | refine below_set ?_ GE517.out | refine below_set ?_ GE518.out | refine below_set ?_ GE526.out) | exact HB.out))
         rintro e w61 ⟨rfl, hi, hb, hk⟩
         refine ⟨_, rfl, ?_⟩
         refine ax7 (Kd.R_mono (Kd.R_keep (IsS40.apart (show IsS40 w0 _ g t533 from ss40 HI0) (kr HO_527003) (by decide)) hk (fun _ h => h.2)) (fun _ h => h.1)) (KeepBut.blk hk (g' := gb517) (o := .cells #[.int .i64 a1_0, .int .i64 a1_1, .int .i64 a1_2, .slice A1_3 l1_3.length c1_3] 25 (0, 0)) (kb BK517) NB517_0.out (by simp)) (KeepBut.blk hk (g' := gb518) (o := .cells #[.int .i64 0, .int .i64 0, .int .i64 0, .slice none 0 0] 25 (0, 0)) (kb BK518) NB518_0.out (by simp)) (KeepBut.blk hk (g' := gb526) (o := .cells #[.int .i64 t520, .int .i64 t521, .int .i64 t522, .slice Ao58 x527003_3.length co58] 25 (0, 0)) (kb BK526) NB526_0.out (by simp)) (KeepBut.trans (ky HK) hk (.inl rfl)) hb hi ?_
         clear HO_527003 BK517 BK518 BK526 HK HB HI0
         intro HO_527003 BK517 BK518 BK526 HK HB HI0
         (try clear hb)
         (try clear hb2)
         (try clear hk)
         (try clear hi)
         refine hK.out _ _ ⟨bk BK526 0, bk BK526 1, bk BK526 2, bk BK526 3, (keep_cell HK.out hw531_0 hne531_0)⟩ (fun hHeld => ?_)
         clear hK K
         refine no 68 ?_
         refine on 16 (some 69) (lm 17 131071) HT_ (fun K hK => ?_)
         refine goes_ Try.func21 (by kernel_rfl) rfl #[.agg #[.int .i64 t520, .int .i64 t521, .int .i64 t522, .slice Ao58 x527003_3.length co58], .int .i64 x38_2, .int .i64 x50_3, .int .u64 t534] (by rfl) rfl rfl ga ?_
         with_reducible refine (mat_Matrix_Set.calls t520 t521 t522 (fun k_ => some k_ = (.slice Ao58 x527003_3.length co58 : Value).ownBlock) (.slice Ao58 x527003_3.length co58) x527003_3 x38_2 x50_3 t534 t536 w0 _ ?side1 ?side2 A56.out).mono ?_
         (case side1 => repeat (first | (with_reducible first | exact HB.out | apply below_alloc | apply pw_below_drewN | apply below_drew1 | refine below_set ?_ (IsS40.ge HI0.out) | refine below_set ?_ GE517.out | refine below_set ?_ GE518.out | refine below_set ?_ GE526.out) | exact HB.out))
         (case side2 => exact Kd.R_lower (Kd.R_tight rfl HO_527003.out) HL.out)
         rintro e w62 ⟨rfl, hy0, hb, hkp⟩
         refine ⟨_, rfl, ?_⟩
         refine ax7 (Kd.R_reok rfl (Kd.R_raise (d := (Kd.int .u64)) (b := w0.heap.size) (b' := w.heap.size) (fun _ _ _ _ h_ => h_) hy0 (fun k_ e_ => Or.elim (hy0.1 k_ e_) (fun hs_ => (fun e_ => Kd.R_base HO_527003.out k_ e_.symm) hs_) (fun hn_ => Nat.le_trans (keep_size (w := w) (g := g) (row := none) (ky HK)) hn_))) (fun k_ e_ => HO_527003.out.1 k_ e_)) (blk_kept (kb BK517) hkp (fun hs_ => (fun e_ => (Kd.R_ne HO_527003.out BK517.out (by decide)) e_) hs_)) (blk_kept (kb BK518) hkp (fun hs_ => (fun e_ => (Kd.R_ne HO_527003.out BK518.out (by decide)) e_) hs_)) (blk_kept (kb BK526) hkp (fun hs_ => (fun e_ => (Kd.R_ne HO_527003.out BK526.out (by decide)) e_) hs_)) (IsS40.kept (ss40 HI0) hkp (fun hs_ => (fun e_ => (IsS40.own_ne HI0.out HO_527003.out (by decide)) e_) hs_)) (Kept.keepG (ky HK) hkp (fun k_ hs_ => (fun e_ => .inr (Kd.R_base HO_527003.out k_ e_.symm)) hs_)) hb ?_
         clear HO_527003 BK517 BK518 BK526 HI0 HK HB
         intro HO_527003 BK517 BK518 BK526 HI0 HK HB
         (try clear hb)
         (try clear hkp)
         (try clear hy0)
         refine hK.out _ _ ⟨bk BK526 0, bk BK526 1, bk BK526 2, bk BK526 3, (keep_cell HK.out hw531_0 hne531_0)⟩ (fun hHeld => ?_)
         clear hK K
         refine no 69 ?_
         refine done_ (done_of HT_.out (by kernel_rfl)) ?_
         try go_wp2
         go_roundg k3
         case measure => have := HJ5.out; have := HK2.out; have := HK3.out; omega
         case rel => exact ⟨(wrap64 (x50_3 + 1)), (t535), (t536), (.slice Ao58 x527003_3.length co58), (by first | rfl | (simp; done) | (simp [*]; done)), H', ⟨by have := HJ5.out; have := HK2.out; have := HK3.out; omega⟩, ⟨kr HO_527003⟩, ⟨kb BK517⟩, ⟨kb BK518⟩, ⟨kb BK526⟩, ⟨ss40 HI0⟩, ⟨ky HK⟩, ⟨sb40⟩⟩
      ·
       rw [if_neg c41] at H
       have c41b0 : decide (x38_2 < t520) = false := decide_eq_false c41
       clear c41
       simp only [Option.some.injEq, Prod.mk.injEq] at H
       obtain ⟨rfl, rfl, rfl, rfl, rfl, rfl⟩ := H
       have hnb63 := NB526_517.out
       have hnc63 := NB517_526.out
       have hnb64 := NB526_518.out
       have hnc64 := NB518_526.out
       have hnb65 := NB526_0.out
       have hnc65 := NB0_526.out
       have hcz66_0 := bc BK526 0 rfl
       have hcz66_1 := bc BK526 1 rfl
       have hcz66_2 := bc BK526 2 rfl
       have hcz66_3 := bc BK526 3 rfl
       have hfz66_0 := blk_frozen BK526.out 0
       have hfz66_1 := blk_frozen BK526.out 1
       have hfz66_2 := blk_frozen BK526.out 2
       have hfz66_3 := blk_frozen BK526.out 3
       have hnb67 := NB518_517.out
       have hnc67 := NB517_518.out
       have hnb68 := NB518_0.out
       have hnc68 := NB0_518.out
       have hcz69_0 := bc BK518 0 rfl
       have hcz69_1 := bc BK518 1 rfl
       have hcz69_2 := bc BK518 2 rfl
       have hcz69_3 := bc BK518 3 rfl
       have hfz69_0 := blk_frozen BK518.out 0
       have hfz69_1 := blk_frozen BK518.out 1
       have hfz69_2 := blk_frozen BK518.out 2
       have hfz69_3 := blk_frozen BK518.out 3
       obtain ⟨Ao70, co70, eo70⟩ := Kd.R_slice HO_527003.out
       subst eo70
       go_wp2
       refine bodyPost_ret (results_ct rfl _ _ gb518 25 #[.int .i64 t520, .int .i64 t521, .int .i64 t522, .slice Ao70 x527003_2.length co70] (0, 0) _ rfl (bp BK518) Try.underlying25 rfl (by kernel_rfl)) rfl ?_
       exact ⟨_, er, by (with_reducible repeat (first | apply Kd.R_alloc | apply Kd.R_drewN | apply Kd.R_drew)); exact Kd.R_mono (Kd.R_far (p := ⟨gb518, 3, none⟩) (Kd.R_far (p := ⟨gb518, 2, none⟩) (Kd.R_far (p := ⟨gb518, 1, none⟩) (Kd.R_far (p := ⟨gb518, 0, none⟩) (Kd.R_types HO_527003.out BK518.out (by decide)) (fun _ hk => hk.2) (.int .i64 t520)) (fun _ hk => hk.2) (.int .i64 t521)) (fun _ hk => hk.2) (.int .i64 t522)) (fun _ hk => hk.2) (.slice Ao70 x527003_2.length co70)) (fun _ hk => trivial), by repeat (first | (with_reducible first | exact HI0.out | apply IsS40.alloc | apply IsS40.drewN | apply IsS40.drew | apply IsS40.set_0 | refine IsS40.far ?_ NB0_517.out _ | refine IsS40.far ?_ NB0_518.out _ | refine IsS40.far ?_ NB0_526.out _) | exact HI0.out), by repeat (first | (with_reducible first | exact HB.out | apply below_alloc | apply pw_below_drewN | apply below_drew1 | refine below_set ?_ (IsS40.ge HI0.out) | refine below_set ?_ GE517.out | refine below_set ?_ GE518.out | refine below_set ?_ GE526.out) | exact HB.out), by repeat (first | (with_reducible first | exact HK.out | apply KeepBut.set_ | apply keep_drewN | apply keep_drew | apply keep_alloc | refine keep_far ?_ GW517.out _ | refine keep_far ?_ GW518.out _ | refine keep_far ?_ GW526.out _) | exact HK.out)⟩

/-! ### vec_Dot: function 16 -/
def vec_Dot.l0 : Nat → List Int → List Int → Int → Int → Int → Int → Option (Int × Int × Int)
 | 0, _, _, _, _, _, _ => none
 | k + 1, x1, x2, x8, x16, x17, x1000 => if x17 < x16 then (if 0 ≤ x17 then (if x17 < (x1.length : Int) then (if x17 < (x2.length : Int) then ((soft_Calc_Mul.f k x1000 (rd x1 x17) (rd x2 x17)).bind fun bt556 => ((soft_Calc_Add.f k bt556.2 x8 bt556.1).bind fun bt558 => (vec_Dot.l0 k x1 x2 bt558.1 x16 (wrap64 (x17 + 1)) bt558.2))) else (none)) else (none)) else (none)) else (some (x8, 0, x1000))
def vec_Dot.f (k : Nat) (s0_0 : Int) (l1 : List Int) (l2 : List Int) : Option (Int × Int × Int) := if (l1.length : Int) = (l2.length : Int) then (vec_Dot.l0 k l1 l2 0 (l1.length : Int) 0 s0_0) else (some (9221120237041090560, 4, s0_0))
theorem vec_Dot.mono_l : ∀ k, (∀ y0 y1 y2 y3 y4 y5, LeO (vec_Dot.l0 k y0 y1 y2 y3 y4 y5) (vec_Dot.l0 (k + 1) y0 y1 y2 y3 y4 y5))
 | 0 => fun _ _ _ _ _ _ r h => by simp [vec_Dot.l0] at h
 | k + 1 => by
  have ih0 := vec_Dot.mono_l k
  ·
   intro y0 y1 y2 y3 y4 y5
   unfold vec_Dot.l0
   repeat' with_reducible first | apply ih0 | apply soft_Calc_Add.mono | apply soft_Calc_Mul.mono | exact LeO.refl _ | exact LeO.none _ | refine LeO.ite ?_ ?_ | refine LeO.bind ?_ (fun _ => ?_)
theorem vec_Dot.mono : ∀ a0 a1 a2 k, LeO (vec_Dot.f k a0 a1 a2) (vec_Dot.f (k + 1) a0 a1 a2) := by
 intro a0 a1 a2 k
 have ih0 := vec_Dot.mono_l k
 unfold vec_Dot.f
 repeat' with_reducible first | apply ih0 | apply soft_Calc_Add.mono | apply soft_Calc_Mul.mono | exact LeO.refl _ | exact LeO.none _ | refine LeO.ite ?_ ?_ | refine LeO.bind ?_ (fun _ => ?_)
def vec_Dot.T7 : Bool × List (List Nat × List Nat) := (true, [([], []), ([], []), ([], []), ([], []), ([], []), ([3, 4], [3, 4]), ([5], [5]), ([], []), ([], []), ([7, 8], [7, 8]), ([9], [9]), ([2, 6, 10], [2, 6, 10]), ([0, 1, 11, 11], [0, 1, 11]), ([12, 12, 0, 1, 2, 3, 4, 5, 6, 7, 8, 9, 10, 11, 12], [1, 12])])
def vec_Dot.B7 : List Nat := [0, 0, 0, 0, 0, 24, 56, 0, 0, 384, 896, 2044, 4095, 8191]
theorem vec_Dot.tab7 : rtab .any (opsOf Try.f16 7) = vec_Dot.T7 := by kernel_rfl
theorem vec_Dot.bits7 : waitsOk vec_Dot.T7.2 vec_Dot.B7 = true := by kernel_rfl
set_option maxHeartbeats 8000000 in
set_option maxRecDepth 100000 in
theorem vec_Dot.calls (k : Nat) (g : Nat) (s0_0 : Int) (A1 : Option Addr) (c1 : Nat) (l1 : List Int) (A2 : Option Addr) (c2 : Nat) (l2 : List Int) (r1 : Int) (r2 : Int) (r3 : Int) (w0 w : World) (hI : IsS40 w0 w g s0_0) (hB : Below w0.heap.size w0 w) (hr1 : Kd.C (Kd.int .u64) w A1 l1.length l1) (hc1 : l1.length ≤ c1) (hf1 : ∀ ad, A1 = some ad → 0 < l1.length → ad.block ≠ g) (hr2 : Kd.C (Kd.int .u64) w A2 l2.length l2) (hc2 : l2.length ≤ c2) (hf2 : ∀ ad, A2 = some ad → 0 < l2.length → ad.block ≠ g) (h : vec_Dot.f k s0_0 l1 l2 = some (r1, r2, r3)) :
  Calls Try.prog 16 #[.pointer (some ⟨g, 0, none⟩), .slice A1 l1.length c1, .slice A2 l2.length c2] w fun e w' => e = .returned (.tuple #[.int .u64 r1, .int .i64 r2]) ∧ IsS40 w0 w' g r3 ∧ Below w0.heap.size w0 w' ∧ KeepBut w w' g none := by
 have HR1 := Aside0.mk hr1
 have HC1 := Aside0.mk hc1
 clear hr1 hc1
 have HR2 := Aside0.mk hr2
 have HC2 := Aside0.mk hc2
 clear hr2 hc2
 have HI0 := Aside0.mk hI
 have HK := Aside0.mk (KeepBut.refl w g none)
 have HL := Aside0.mk hB.size
 clear hI
 have HW0 := Aside0.mk hB.size
 have HB := Aside0.mk hB
 clear hB
 have H : (if (l1.length : Int) = (l2.length : Int) then (vec_Dot.l0 k l1 l2 0 (l1.length : Int) 0 s0_0) else (some (9221120237041090560, 4, s0_0))) = some (r1, r2, r3) := h
 clear h
 by_cases c4 : (l1.length : Int) = (l2.length : Int)
 rotate_left
 ·
  rw [if_neg c4] at H
  have c4b0 : ((l1.length : Int) == (l2.length : Int)) = false := beq_eq_false_iff_ne.mpr c4
  have c4b1 : ((l1.length : Int) != (l2.length : Int)) = true := bne_iff_ne.mpr c4
  have c4b2 : (l1.length == l2.length) = false := by first | simpa using c4 | (simp at c4 ⊢; omega)
  simp only [Option.some.injEq, Prod.mk.injEq] at H
  obtain ⟨rfl, rfl, rfl⟩ := H
  go_enter Try.func16, Try.ntmps16
  go_wp2
  go_ret2
  exact ⟨er, by repeat (first | (with_reducible first | exact HI0.out | apply IsS40.alloc | apply IsS40.drewN | apply IsS40.drew | apply IsS40.set_0) | exact HI0.out), by repeat (first | (with_reducible first | exact HB.out | apply below_alloc | apply pw_below_drewN | apply below_drew1 | refine below_set ?_ (IsS40.ge HI0.out)) | exact HB.out), by repeat (first | (with_reducible first | exact HK.out | apply KeepBut.set_ | apply keep_drewN | apply keep_drew | apply keep_alloc) | exact HK.out)⟩

 rw [if_pos c4] at H
 have c4b0 : ((l1.length : Int) == (l2.length : Int)) = true := beq_iff_eq.mpr c4
 have c4b1 : ((l1.length : Int) != (l2.length : Int)) = false := bne_eq_false_iff_eq.mpr c4
 have c4b2 : (l1.length == l2.length) = true := by first | simpa using c4 | (simp at c4 ⊢; omega)
 clear c4
 have H' := Aside0.mk H
 clear H
 go_enter Try.func16, Try.ntmps16
 go_wp2
 go_loopg [8, 17] k (fun kq v8 v17 w' => ∃ (x8_1 : Int) (x17_1 : Int) (x1000_1 : Int), v8 = .int .u64 x8_1 ∧ v17 = .int .i64 x17_1 ∧ Aside0 (vec_Dot.l0 kq l1 l2 x8_1 (l1.length : Int) x17_1 x1000_1 = some (r1, r2, r3)) ∧ Aside0 (kq ≤ k) ∧ Aside0 (IsS40 w0 w' g x1000_1) ∧ Aside0 (KeepBut w w' g none) ∧ Aside0 (Below w0.heap.size w0 w'))
 case atStart => exact ⟨(0), (0), (s0_0), (by first | rfl | (simp; done) | (simp [*]; done)), (by first | rfl | (simp; done) | (simp [*]; done)), H', ⟨Nat.le_refl _⟩, ⟨ss40 HI0⟩, ⟨kz HK⟩, ⟨sb40⟩⟩
 case round =>
  clear H'
  try clear c1
  try clear c2
  try clear p2
  try clear c4
  try clear c4b0
  try clear c4b1
  try clear c4b2
  obtain ⟨x8_1, x17_1, x1000_1, rfl, rfl, HA, HK1, HI0, HK, HB⟩ := hrel
  cases gk with
  | zero => exact absurd HA.out (by simp [vec_Dot.l0])
  | succ k1 =>
   have H := HA.out
   clear HA
   simp only [vec_Dot.l0] at H
   by_cases c5 : x17_1 < (l1.length : Int)
   rotate_left
   ·
    rw [if_neg c5] at H
    have c5b0 : decide (x17_1 < (l1.length : Int)) = false := decide_eq_false c5
    clear c5
    simp only [Option.some.injEq, Prod.mk.injEq] at H
    obtain ⟨rfl, rfl, rfl⟩ := H
    go_wp2
    go_ret2
    exact ⟨er, by repeat (first | (with_reducible first | exact HI0.out | apply IsS40.alloc | apply IsS40.drewN | apply IsS40.drew | apply IsS40.set_0) | exact HI0.out), by repeat (first | (with_reducible first | exact HB.out | apply below_alloc | apply pw_below_drewN | apply below_drew1 | refine below_set ?_ (IsS40.ge HI0.out)) | exact HB.out), by repeat (first | (with_reducible first | exact HK.out | apply KeepBut.set_ | apply keep_drewN | apply keep_drew | apply keep_alloc) | exact HK.out)⟩
   rw [if_pos c5] at H
   have c5b0 : decide (x17_1 < (l1.length : Int)) = true := decide_eq_true c5
   clear c5
   by_cases c6 : 0 ≤ x17_1
   rotate_left
   ·
    rw [if_neg c6] at H
    exact absurd H (by simp)
   rw [if_pos c6] at H
   have c6b0 : decide (0 ≤ x17_1) = true := decide_eq_true c6
   clear c6
   by_cases c7 : x17_1 < (l1.length : Int)
   rotate_left
   ·
    rw [if_neg c7] at H
    exact absurd H (by simp)
   rw [if_pos c7] at H
   have c7b0 : decide (x17_1 < (l1.length : Int)) = true := decide_eq_true c7
   clear c7
   by_cases c8 : x17_1 < (l2.length : Int)
   rotate_left
   ·
    rw [if_neg c8] at H
    exact absurd H (by simp)
   rw [if_pos c8] at H
   have c8b0 : decide (x17_1 < (l2.length : Int)) = true := decide_eq_true c8
   clear c8
   obtain ⟨⟨t556, t557⟩, A90, H⟩ := Option.bind_eq_some_iff.mp H
   (try dsimp -simprocs only at H)
   have A9 := Aside0.mk A90
   clear A90
   obtain ⟨⟨t558, t559⟩, A100, H⟩ := Option.bind_eq_some_iff.mp H
   (try dsimp -simprocs only at H)
   have A10 := Aside0.mk A100
   clear A100
   have H' := Aside0.mk H
   clear H
   try go_wp2
   refine ax3 (IsS40.drew HI0.out) (keep_drew HK.out) (below_drew1 HB.out) ?_
   clear HI0 HK HB
   intro HI0 HK HB
   have p554 : 0 ≤ (x17_1 : Int) := of_decide_eq_true (by first | (with_reducible assumption) | assumption)
   have q554 : x17_1 < (l1.length : Int) := of_decide_eq_true (by first | (with_reducible assumption) | assumption)
   obtain ⟨ad554, e554, hx554_0⟩ := Kd.at_int HR1.out x17_1 p554 q554
   have hw554_0 := hx554_0
   cases e554
   have hne554_0 := (show ((ad554.add (x17_1).toNat) : Addr).block ≠ g from by first | (rw [add_block]; exact hf1 ad554 rfl (by omega)) | (show (Addr.add _ _).block ≠ _; rw [add_block]; exact hf1 ad554 rfl (by omega)) | exact hf1 ad554 rfl (by omega))
   replace hx554_0 := keep_cell HK.out hx554_0 (by first | (rw [add_block]; exact hf1 _ rfl (by omega)) | exact hf1 _ rfl (by omega) | exact hf1 ad554 rfl (by omega))
   replace p554 := eq_true p554
   replace q554 := eq_true q554
   have p555 : 0 ≤ (x17_1 : Int) := of_decide_eq_true (by first | (with_reducible assumption) | assumption)
   have q555 : x17_1 < (l2.length : Int) := of_decide_eq_true (by first | (with_reducible assumption) | assumption)
   obtain ⟨ad555, e555, hx555_0⟩ := Kd.at_int HR2.out x17_1 p555 q555
   have hw555_0 := hx555_0
   cases e555
   have hne555_0 := (show ((ad555.add (x17_1).toNat) : Addr).block ≠ g from by first | (rw [add_block]; exact hf2 ad555 rfl (by omega)) | (show (Addr.add _ _).block ≠ _; rw [add_block]; exact hf2 ad555 rfl (by omega)) | exact hf2 ad555 rfl (by omega))
   replace hx555_0 := keep_cell HK.out hx555_0 (by first | (rw [add_block]; exact hf2 _ rfl (by omega)) | exact hf2 _ rfl (by omega) | exact hf2 ad555 rfl (by omega))
   replace p555 := eq_true p555
   replace q555 := eq_true q555
   refine start_ (n := 14) (S := fun w' => w'.cell? (ad554.add (x17_1).toNat) = some (.int .u64 (rd l1 x17_1)) ∧ w'.cell? (ad555.add (x17_1).toNat) = some (.int .u64 (rd l2 x17_1))) (ds := []) #[false, false, false, false, false, false, false, false, false, false, false, false, false, false] (by kernel_rfl) rfl rfl ⟨(keep_cell HK.out hw554_0 hne554_0), (keep_cell HK.out hw555_0 hne555_0)⟩ (fun hHeld => ?_); refine with_tabW vec_Dot.tab7 vec_Dot.bits7 (fun HT_ HW_ => ?_)
   generalize wr.drew = w11 at HI0 HK HB hx554_0 hx555_0 hHeld ⊢
   refine pu 0 20 (lm 14 1) HT_ ?_
   refine pu 1 21 (lm 14 3) HT_ ?_
   refine pu 2 22 (lm 14 7) HT_ ?_
   refine pu 3 23 (lm 14 15) HT_ ?_
   refine pu 4 24 (lm 14 31) HT_ ?_
   refine pu 5 25 (lm 14 63) HT_ ?_
   refine pu 7 27 (lm 14 191) HT_ ?_
   refine pu 8 28 (lm 14 447) HT_ ?_
   refine pu 9 29 (lm 14 959) HT_ ?_
   refine ta 6 26 (lm 14 1023) HT_ HW_ hHeld ?_
   refine ta 10 30 (lm 14 2047) HT_ HW_ hHeld ?_
   refine on 11 (some 31) (lm 14 4095) HT_ (fun K hK => ?_)
   refine goes_ Try.func18 (by kernel_rfl) rfl #[.pointer (some ⟨g, 0, none⟩), .int .u64 (rd l1 x17_1), .int .u64 (rd l2 x17_1)] (by rfl) rfl rfl ga ?_
   with_reducible refine (soft_Calc_Mul.calls k1 g x1000_1 (rd l1 x17_1) (rd l2 x17_1) t556 t557 w0 _ ?side1 ?side2 A9.out).mono ?_
   (case side1 => repeat (first | (with_reducible first | exact HI0.out | apply IsS40.alloc | apply IsS40.drewN | apply IsS40.drew | apply IsS40.set_0) | exact HI0.out))
   (case side2 => repeat (first | (with_reducible first | exact HB.out | apply below_alloc | apply pw_below_drewN | apply below_drew1 | refine below_set ?_ (IsS40.ge HI0.out)) | exact HB.out))
   rintro e w12 ⟨rfl, hi, hb, hk⟩
   refine ⟨_, rfl, ?_⟩
   refine ax3 (KeepBut.trans (kz HK) hk (.inl rfl)) hb hi ?_
   clear HK HB HI0
   intro HK HB HI0
   (try clear hb)
   (try clear hb2)
   (try clear hk)
   (try clear hi)
   refine hK.out _ _ ⟨(keep_cell HK.out hw554_0 hne554_0), (keep_cell HK.out hw555_0 hne555_0)⟩ (fun hHeld => ?_)
   clear hK K
   refine no 31 ?_
   refine on 12 (some 32) (lm 14 8191) HT_ (fun K hK => ?_)
   refine goes_ Try.func19 (by kernel_rfl) rfl #[.pointer (some ⟨g, 0, none⟩), .int .u64 x8_1, .int .u64 t556] (by rfl) rfl rfl ga ?_
   with_reducible refine (soft_Calc_Add.calls k1 g t557 x8_1 t556 t558 t559 w0 _ ?side1 ?side2 A10.out).mono ?_
   (case side1 => repeat (first | (with_reducible first | exact HI0.out | apply IsS40.alloc | apply IsS40.drewN | apply IsS40.drew | apply IsS40.set_0) | exact HI0.out))
   (case side2 => repeat (first | (with_reducible first | exact HB.out | apply below_alloc | apply pw_below_drewN | apply below_drew1 | refine below_set ?_ (IsS40.ge HI0.out)) | exact HB.out))
   rintro e w13 ⟨rfl, hi, hb, hk⟩
   refine ⟨_, rfl, ?_⟩
   refine ax3 (KeepBut.trans (kz HK) hk (.inl rfl)) hb hi ?_
   clear HK HB HI0
   intro HK HB HI0
   (try clear hb)
   (try clear hb2)
   (try clear hk)
   (try clear hi)
   refine hK.out _ _ ⟨(keep_cell HK.out hw554_0 hne554_0), (keep_cell HK.out hw555_0 hne555_0)⟩ (fun hHeld => ?_)
   clear hK K
   refine no 32 ?_
   refine pu 13 8 (lm 14 16383) HT_ ?_
   refine done_ (done_of HT_.out (by kernel_rfl)) ?_
   try go_wp2
   go_roundg k1
   case measure => have := HK1.out; omega
   case rel => exact ⟨(t558), (wrap64 (x17_1 + 1)), (t559), (by first | rfl | (simp; done) | (simp [*]; done)), (by first | rfl | (simp; done) | (simp [*]; done)), H', ⟨by have := HK1.out; omega⟩, ⟨ss40 HI0⟩, ⟨kz HK⟩, ⟨sb40⟩⟩
end Go.Proofs.Ytfogmgcpajndcaa.F
