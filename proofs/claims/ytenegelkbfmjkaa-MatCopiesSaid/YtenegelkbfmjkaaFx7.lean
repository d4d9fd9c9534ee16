-- Written by a program of this seat's session (mkprint), out of the translation.
import Derived.Test.YtenegelkbfmjkaaShort
import Derived.Test.YtenegelkbfmjkaaFx0
import Derived.Test.YtenegelkbfmjkaaFx2
import Derived.Test.YtenegelkbfmjkaaFx6
namespace Go.Proofs.Ytenegelkbfmjkaa.F
open Go.RowKit Go.Proofs.YtenegelkbfmjkaaW.PrintWords Go.Proofs.YtenegelkbfmjkaaW.PrintLast Go.Proofs.YtenegelkbfmjkaaW.PrintMore
attribute [local go_sem] max2_int min2_int max_two min_two max_three min_three max_four min_four   -- for this text's walks alone
set_option linter.unusedVariables false
set_option linter.unusedSimpArgs false

/-! ### mat_Matrix_Cut: function 13 -/
mutual
def mat_Matrix_Cut.j0 : Nat → Int → Int → Int → Int → Bool → Int → Int → Int → List Int → Option (Int × Int × Int × List Int × Int)
 | 0, _, _, _, _, _, _, _, _, _ => none
 | k + 1, x1, x2, x3, x4, x49, x246000, x246001, x246002, x246003 => if x49 = true then (some (0, 0, 0, ([] : List Int), 4)) else ((mat_New.f x3 x4).bind fun bt248 => (mat_Matrix_Cut.l0 k x1 x2 x4 x3 0 x246000 x246001 x246002 x246003 bt248.1 bt248.2.1 bt248.2.2.1 bt248.2.2.2))
def mat_Matrix_Cut.l0 : Nat → Int → Int → Int → Int → Int → Int → Int → Int → List Int → Int → Int → Int → List Int → Option (Int × Int × Int × List Int × Int)
 | 0, _, _, _, _, _, _, _, _, _, _, _, _, _ => none
 | k + 1, x1, x2, x4, x54, x55, x246000, x246001, x246002, x246003, x255000, x255001, x255002, x255003 => if x55 < x54 then (mat_Matrix_Cut.l1 k x1 x2 x4 x55 x54 x55 x4 0 x246000 x246001 x246002 x246003 x255000 x255001 x255002 x255003) else (some (x255000, x255001, x255002, x255003, 0))
def mat_Matrix_Cut.l1 : Nat → Int → Int → Int → Int → Int → Int → Int → Int → Int → Int → Int → List Int → Int → Int → Int → List Int → Option (Int × Int × Int × List Int × Int)
 | 0, _, _, _, _, _, _, _, _, _, _, _, _, _, _, _, _ => none
 | k + 1, x1, x2, x4, x13, x54, x55, x58, x59, x246000, x246001, x246002, x246003, x255000, x255001, x255002, x255003 => if x59 < x58 then ((mat_Matrix_At.f x246000 x246001 x246002 x246003 (wrap64 (x1 + x13)) (wrap64 (x2 + x59))).bind fun t255 => ((mat_Matrix_Set.f x255000 x255001 x255002 x255003 x13 x59 t255).bind fun t256 => (mat_Matrix_Cut.l1 k x1 x2 x4 x13 x54 x55 x58 (wrap64 (x59 + 1)) x246000 x246001 x246002 x246003 x255000 x255001 x255002 t256))) else (mat_Matrix_Cut.l0 k x1 x2 x4 x54 (wrap64 (x55 + 1)) x246000 x246001 x246002 x246003 x255000 x255001 x255002 x255003)
end
def mat_Matrix_Cut.f (k : Nat) (a0_0 : Int) (a0_1 : Int) (a0_2 : Int) (l0_3 : List Int) (a1 : Int) (a2 : Int) (a3 : Int) (a4 : Int) : Option (Int × Int × Int × List Int × Int) := (mat_Matrix_Check.f k a0_0 a0_1 a0_2 l0_3).bind fun t247 => (if t247 = 0 then (if a1 < 0 then (mat_Matrix_Cut.j0 k a1 a2 a3 a4 true a0_0 a0_1 a0_2 l0_3) else (if a2 < 0 then (mat_Matrix_Cut.j0 k a1 a2 a3 a4 true a0_0 a0_1 a0_2 l0_3) else (if a3 < 0 then (mat_Matrix_Cut.j0 k a1 a2 a3 a4 true a0_0 a0_1 a0_2 l0_3) else (if a4 < 0 then (mat_Matrix_Cut.j0 k a1 a2 a3 a4 true a0_0 a0_1 a0_2 l0_3) else (if a1 > (wrap64 (a0_0 - a3)) then (mat_Matrix_Cut.j0 k a1 a2 a3 a4 true a0_0 a0_1 a0_2 l0_3) else (mat_Matrix_Cut.j0 k a1 a2 a3 a4 (decide (a2 > (wrap64 (a0_1 - a4)))) a0_0 a0_1 a0_2 l0_3)))))) else (mat_Matrix_Cut.j0 k a1 a2 a3 a4 true a0_0 a0_1 a0_2 l0_3))
theorem mat_Matrix_Cut.mono_l : ∀ k, (∀ y0 y1 y2 y3 y4 y5 y6 y7 y8, LeO (mat_Matrix_Cut.j0 k y0 y1 y2 y3 y4 y5 y6 y7 y8) (mat_Matrix_Cut.j0 (k + 1) y0 y1 y2 y3 y4 y5 y6 y7 y8)) ∧ (∀ y0 y1 y2 y3 y4 y5 y6 y7 y8 y9 y10 y11 y12, LeO (mat_Matrix_Cut.l0 k y0 y1 y2 y3 y4 y5 y6 y7 y8 y9 y10 y11 y12) (mat_Matrix_Cut.l0 (k + 1) y0 y1 y2 y3 y4 y5 y6 y7 y8 y9 y10 y11 y12)) ∧ (∀ y0 y1 y2 y3 y4 y5 y6 y7 y8 y9 y10 y11 y12 y13 y14 y15, LeO (mat_Matrix_Cut.l1 k y0 y1 y2 y3 y4 y5 y6 y7 y8 y9 y10 y11 y12 y13 y14 y15) (mat_Matrix_Cut.l1 (k + 1) y0 y1 y2 y3 y4 y5 y6 y7 y8 y9 y10 y11 y12 y13 y14 y15))
 | 0 => ⟨fun _ _ _ _ _ _ _ _ _ r h => by simp [mat_Matrix_Cut.j0] at h, fun _ _ _ _ _ _ _ _ _ _ _ _ _ r h => by simp [mat_Matrix_Cut.l0] at h, fun _ _ _ _ _ _ _ _ _ _ _ _ _ _ _ _ r h => by simp [mat_Matrix_Cut.l1] at h⟩
 | k + 1 => by
  obtain ⟨ih0, ih1, ih2⟩ := mat_Matrix_Cut.mono_l k
  refine ⟨?_, ?_, ?_⟩ <;> intros <;> (first | unfold mat_Matrix_Cut.j0 | unfold mat_Matrix_Cut.l0 | unfold mat_Matrix_Cut.l1) <;>
   repeat' with_reducible first | apply ih0 | apply ih1 | apply ih2 | apply mat_Matrix_Check.mono | exact LeO.refl _ | exact LeO.none _ | refine LeO.ite ?_ ?_ | refine LeO.bind ?_ (fun _ => ?_)
theorem mat_Matrix_Cut.mono : ∀ a0 a1 a2 a3 a4 a5 a6 a7 k, LeO (mat_Matrix_Cut.f k a0 a1 a2 a3 a4 a5 a6 a7) (mat_Matrix_Cut.f (k + 1) a0 a1 a2 a3 a4 a5 a6 a7) := by
 intro a0 a1 a2 a3 a4 a5 a6 a7 k
 obtain ⟨ih0, ih1, ih2⟩ := mat_Matrix_Cut.mono_l k
 unfold mat_Matrix_Cut.f
 repeat' with_reducible first | apply ih0 | apply ih1 | apply ih2 | apply mat_Matrix_Check.mono | exact LeO.refl _ | exact LeO.none _ | refine LeO.ite ?_ ?_ | refine LeO.bind ?_ (fun _ => ?_)
def mat_Matrix_Cut.T10 : Bool × List (List Nat × List Nat) := (true, [([], []), ([], []), ([], []), ([], []), ([], []), ([], []), ([4, 5], [4, 5]), ([], []), ([], []), ([7, 8], [7, 8]), ([3, 6, 9], [3, 6, 9]), ([0, 1, 2, 10, 10], [0, 1, 2, 10])])
def mat_Matrix_Cut.B10 : List Nat := [0, 0, 0, 0, 0, 0, 48, 0, 0, 384, 1016, 2047]
theorem mat_Matrix_Cut.tab10 : rtab .any (opsOf Try.f13 10) = mat_Matrix_Cut.T10 := by kernel_rfl
theorem mat_Matrix_Cut.bits10 : waitsOk mat_Matrix_Cut.T10.2 mat_Matrix_Cut.B10 = true := by kernel_rfl
set_option maxHeartbeats 8000000 in
set_option maxRecDepth 100000 in
theorem mat_Matrix_Cut.calls (k : Nat) (a0_0 : Int) (a0_1 : Int) (a0_2 : Int) (A0_3 : Option Addr) (c0_3 : Nat) (l0_3 : List Int) (a1 : Int) (a2 : Int) (a3 : Int) (a4 : Int) (r1 : Int) (r2 : Int) (r3 : Int) (r4 : List Int) (r5 : Int) (w : World) (hr0_3 : Kd.C (Kd.int .u64) w A0_3 l0_3.length l0_3) (hc0_3 : l0_3.length ≤ c0_3) (h : mat_Matrix_Cut.f k a0_0 a0_1 a0_2 l0_3 a1 a2 a3 a4 = some (r1, r2, r3, r4, r5)) :
  Calls Try.prog 13 #[.agg #[.int .i64 a0_0, .int .i64 a0_1, .int .i64 a0_2, .slice A0_3 l0_3.length c0_3], .int .i64 a1, .int .i64 a2, .int .i64 a3, .int .i64 a4] w fun e w' => ∃ v3_ : Value, e = .returned (.tuple #[.agg #[.int .i64 r1, .int .i64 r2, .int .i64 r3, v3_], .int .i64 r5]) ∧ Kd.R (Kd.int .u64) 30 w' w.heap.size (fun _ => True) v3_ r4 ∧ Below w.heap.size w w' := by
 have hu25 := Try.underlying25
 have HR0_3 := Aside0.mk hr0_3
 have HC0_3 := Aside0.mk hc0_3
 clear hr0_3 hc0_3
 have HB := Aside0.mk (Below.refl w.heap.size w)
 have H : ((mat_Matrix_Check.f k a0_0 a0_1 a0_2 l0_3).bind fun t247 => (if t247 = 0 then (if a1 < 0 then (mat_Matrix_Cut.j0 k a1 a2 a3 a4 true a0_0 a0_1 a0_2 l0_3) else (if a2 < 0 then (mat_Matrix_Cut.j0 k a1 a2 a3 a4 true a0_0 a0_1 a0_2 l0_3) else (if a3 < 0 then (mat_Matrix_Cut.j0 k a1 a2 a3 a4 true a0_0 a0_1 a0_2 l0_3) else (if a4 < 0 then (mat_Matrix_Cut.j0 k a1 a2 a3 a4 true a0_0 a0_1 a0_2 l0_3) else (if a1 > (wrap64 (a0_0 - a3)) then (mat_Matrix_Cut.j0 k a1 a2 a3 a4 true a0_0 a0_1 a0_2 l0_3) else (mat_Matrix_Cut.j0 k a1 a2 a3 a4 (decide (a2 > (wrap64 (a0_1 - a4)))) a0_0 a0_1 a0_2 l0_3)))))) else (mat_Matrix_Cut.j0 k a1 a2 a3 a4 true a0_0 a0_1 a0_2 l0_3))) = some (r1, r2, r3, r4, r5) := h
 clear h
 have HC6 := Aside0.mk H
 clear H
 go_enter Try.func13, Try.ntmps13
 go_upto_region 1 with (first | ((with_reducible refine gate_dst (N := 5) rfl ?_); refine gbox (N := 5) (cs := #[.int .i64 a0_0, .int .i64 a0_1, .int .i64 a0_2, .slice A0_3 l0_3.length c0_3]) (t := 25) ?_; intro gb245 hg w7 hbox hb; refine ax4 (below_step bel hb) hbox ((ge hg : w.heap.size ≤ gb245)) ((ge hg : w.heap.size ≤ gb245)) ?_; clear HB; intro HB BK245 GW245 GE245; clear hb hbox hg) | ((with_reducible refine gate_dst (N := 10) rfl ?_); refine gbox (N := 10) (cs := #[.int .i64 0, .int .i64 0, .int .i64 0, .slice none 0 0]) (t := 25) ?_; intro gb246 hg w8 hbox hb; refine ax7 (bb BK245 hb) (below_step bes hb) hbox ((ge hg : w.heap.size ≤ gb246)) ((ge hg : w.heap.size ≤ gb246)) (nl hg BK245) (ng hg BK245) ?_; clear BK245; clear HB; intro BK245 HB BK246 GW246 GE246 NB245_246 NB246_245; clear hb hbox hg))
 (try simp only [Act.put, sa0, sa1, sa2])
 go_cut [49] (fun v49 wc => ∃ (kq : Nat) (x49_5 : Bool), v49 = .bool x49_5 ∧ Aside0 (mat_Matrix_Cut.j0 kq a1 a2 a3 a4 x49_5 a0_0 a0_1 a0_2 l0_3 = some (r1, r2, r3, r4, r5)) ∧ Aside0 (kq ≤ k) ∧ Aside0 (wc.heap[gb245]? = some (.cells #[.int .i64 a0_0, .int .i64 a0_1, .int .i64 a0_2, (.slice A0_3 l0_3.length c0_3)] 25 (0, 0))) ∧ Aside0 (wc.heap[gb246]? = some (.cells #[.int .i64 0, .int .i64 0, .int .i64 0, (.slice none 0 0)] 25 (0, 0))) ∧ Aside0 (Below w.heap.size w wc))
 case first =>
  have H := HC6.out
  clear HC6
  obtain ⟨t247, A90, H⟩ := Option.bind_eq_some_iff.mp H
  (try dsimp -simprocs only at H)
  have A9 := Aside0.mk A90
  clear A90
  by_cases c10 : t247 = 0
  ·
   rw [if_pos c10] at H
   have c10b0 : (t247 == 0) = true := beq_iff_eq.mpr c10
   have c10b1 : (t247 != 0) = false := bne_eq_false_iff_eq.mpr c10
   clear c10
   (first | rw [c10b0] | (simp only [i64_w, i32_w]; rw [c10b0]) | skip)
   by_cases c11 : a1 < 0
   ·
    rw [if_pos c11] at H
    have c11b0 : decide (a1 < 0) = true := decide_eq_true c11
    clear c11
    have H' := Aside0.mk H
    clear H
    have hnb12 := NB245_246.out
    have hnc12 := NB246_245.out
    have hcz13_0 := bc BK245 0 rfl
    have hcz13_1 := bc BK245 1 rfl
    have hcz13_2 := bc BK245 2 rfl
    have hcz13_3 := bc BK245 3 rfl
    have hfz13_0 := blk_frozen BK245.out 0
    have hfz13_1 := blk_frozen BK245.out 1
    have hfz13_2 := blk_frozen BK245.out 2
    have hfz13_3 := blk_frozen BK245.out 3
    go_wp2_with (first | ((with_reducible refine gate_callee (f := 12) rfl ?_); refine goesL_ (some 16) rfl rfl Try.func12 (by kernel_rfl) rfl #[.agg #[.int .i64 a0_0, .int .i64 a0_1, .int .i64 a0_2, .slice A0_3 l0_3.length c0_3]] rfl ga ?_; (with_reducible refine (mat_Matrix_Check.calls k a0_0 a0_1 a0_2 _ _ l0_3 t247 _ ?side1 ?side2 A9.out).mono ?_); (case side1 => repeat (first | exact (Kd.C_below HR0_3.out HB.out) | (with_reducible refine Kd.C_alloc ?_ _) | (with_reducible refine Kd.C_drewN ?_ _) | (with_reducible refine Kd.C_drew ?_))); (case side2 => exact HC0_3.out); rintro e w14 ⟨rfl, hb⟩; refine ⟨_, rfl, ?_⟩; refine ax3 (bb BK245 hb) (bb BK246 hb) (below_step bes hb) ?_; clear BK245; clear BK246; clear HB; intro BK245 BK246 HB; (try clear hb)))
    go_meet
    case rel => exact ⟨_, (true), (by first | rfl | (simp; done) | (simp [*]; done)), H', ⟨by first | omega | exact Nat.le_refl _⟩, ⟨kb BK245⟩, ⟨kb BK246⟩, ⟨bes⟩⟩
   ·
    rw [if_neg c11] at H
    have c11b0 : decide (a1 < 0) = false := decide_eq_false c11
    clear c11
    by_cases c15 : a2 < 0
    ·
     rw [if_pos c15] at H
     have c15b0 : decide (a2 < 0) = true := decide_eq_true c15
     clear c15
     have H' := Aside0.mk H
     clear H
     have hnb16 := NB245_246.out
     have hnc16 := NB246_245.out
     have hcz17_0 := bc BK245 0 rfl
     have hcz17_1 := bc BK245 1 rfl
     have hcz17_2 := bc BK245 2 rfl
     have hcz17_3 := bc BK245 3 rfl
     have hfz17_0 := blk_frozen BK245.out 0
     have hfz17_1 := blk_frozen BK245.out 1
     have hfz17_2 := blk_frozen BK245.out 2
     have hfz17_3 := blk_frozen BK245.out 3
     go_wp2_with (first | ((with_reducible refine gate_callee (f := 12) rfl ?_); refine goesL_ (some 16) rfl rfl Try.func12 (by kernel_rfl) rfl #[.agg #[.int .i64 a0_0, .int .i64 a0_1, .int .i64 a0_2, .slice A0_3 l0_3.length c0_3]] rfl ga ?_; (with_reducible refine (mat_Matrix_Check.calls k a0_0 a0_1 a0_2 _ _ l0_3 t247 _ ?side1 ?side2 A9.out).mono ?_); (case side1 => repeat (first | exact (Kd.C_below HR0_3.out HB.out) | (with_reducible refine Kd.C_alloc ?_ _) | (with_reducible refine Kd.C_drewN ?_ _) | (with_reducible refine Kd.C_drew ?_))); (case side2 => exact HC0_3.out); rintro e w18 ⟨rfl, hb⟩; refine ⟨_, rfl, ?_⟩; refine ax3 (bb BK245 hb) (bb BK246 hb) (below_step bes hb) ?_; clear BK245; clear BK246; clear HB; intro BK245 BK246 HB; (try clear hb)))
     go_meet
     case rel => exact ⟨_, (true), (by first | rfl | (simp; done) | (simp [*]; done)), H', ⟨by first | omega | exact Nat.le_refl _⟩, ⟨kb BK245⟩, ⟨kb BK246⟩, ⟨bes⟩⟩
    ·
     rw [if_neg c15] at H
     have c15b0 : decide (a2 < 0) = false := decide_eq_false c15
     clear c15
     by_cases c19 : a3 < 0
     ·
      rw [if_pos c19] at H
      have c19b0 : decide (a3 < 0) = true := decide_eq_true c19
      clear c19
      have H' := Aside0.mk H
      clear H
      have hnb20 := NB245_246.out
      have hnc20 := NB246_245.out
      have hcz21_0 := bc BK245 0 rfl
      have hcz21_1 := bc BK245 1 rfl
      have hcz21_2 := bc BK245 2 rfl
      have hcz21_3 := bc BK245 3 rfl
      have hfz21_0 := blk_frozen BK245.out 0
      have hfz21_1 := blk_frozen BK245.out 1
      have hfz21_2 := blk_frozen BK245.out 2
      have hfz21_3 := blk_frozen BK245.out 3
      go_wp2_with (first | ((with_reducible refine gate_callee (f := 12) rfl ?_); refine goesL_ (some 16) rfl rfl Try.func12 (by kernel_rfl) rfl #[.agg #[.int .i64 a0_0, .int .i64 a0_1, .int .i64 a0_2, .slice A0_3 l0_3.length c0_3]] rfl ga ?_; (with_reducible refine (mat_Matrix_Check.calls k a0_0 a0_1 a0_2 _ _ l0_3 t247 _ ?side1 ?side2 A9.out).mono ?_); (case side1 => repeat (first | exact (Kd.C_below HR0_3.out HB.out) | (with_reducible refine Kd.C_alloc ?_ _) | (with_reducible refine Kd.C_drewN ?_ _) | (with_reducible refine Kd.C_drew ?_))); (case side2 => exact HC0_3.out); rintro e w22 ⟨rfl, hb⟩; refine ⟨_, rfl, ?_⟩; refine ax3 (bb BK245 hb) (bb BK246 hb) (below_step bes hb) ?_; clear BK245; clear BK246; clear HB; intro BK245 BK246 HB; (try clear hb)))
      go_meet
      case rel => exact ⟨_, (true), (by first | rfl | (simp; done) | (simp [*]; done)), H', ⟨by first | omega | exact Nat.le_refl _⟩, ⟨kb BK245⟩, ⟨kb BK246⟩, ⟨bes⟩⟩
     ·
      rw [if_neg c19] at H
      have c19b0 : decide (a3 < 0) = false := decide_eq_false c19
      clear c19
      by_cases c23 : a4 < 0
      ·
       rw [if_pos c23] at H
       have c23b0 : decide (a4 < 0) = true := decide_eq_true c23
       clear c23
       have H' := Aside0.mk H
       clear H
       have hnb24 := NB245_246.out
       have hnc24 := NB246_245.out
       have hcz25_0 := bc BK245 0 rfl
       have hcz25_1 := bc BK245 1 rfl
       have hcz25_2 := bc BK245 2 rfl
       have hcz25_3 := bc BK245 3 rfl
       have hfz25_0 := blk_frozen BK245.out 0
       have hfz25_1 := blk_frozen BK245.out 1
       have hfz25_2 := blk_frozen BK245.out 2
       have hfz25_3 := blk_frozen BK245.out 3
       go_wp2_with (first | ((with_reducible refine gate_callee (f := 12) rfl ?_); refine goesL_ (some 16) rfl rfl Try.func12 (by kernel_rfl) rfl #[.agg #[.int .i64 a0_0, .int .i64 a0_1, .int .i64 a0_2, .slice A0_3 l0_3.length c0_3]] rfl ga ?_; (with_reducible refine (mat_Matrix_Check.calls k a0_0 a0_1 a0_2 _ _ l0_3 t247 _ ?side1 ?side2 A9.out).mono ?_); (case side1 => repeat (first | exact (Kd.C_below HR0_3.out HB.out) | (with_reducible refine Kd.C_alloc ?_ _) | (with_reducible refine Kd.C_drewN ?_ _) | (with_reducible refine Kd.C_drew ?_))); (case side2 => exact HC0_3.out); rintro e w26 ⟨rfl, hb⟩; refine ⟨_, rfl, ?_⟩; refine ax3 (bb BK245 hb) (bb BK246 hb) (below_step bes hb) ?_; clear BK245; clear BK246; clear HB; intro BK245 BK246 HB; (try clear hb)))
       go_meet
       case rel => exact ⟨_, (true), (by first | rfl | (simp; done) | (simp [*]; done)), H', ⟨by first | omega | exact Nat.le_refl _⟩, ⟨kb BK245⟩, ⟨kb BK246⟩, ⟨bes⟩⟩
      ·
       rw [if_neg c23] at H
       have c23b0 : decide (a4 < 0) = false := decide_eq_false c23
       clear c23
       by_cases c27 : a1 > (wrap64 (a0_0 - a3))
       ·
        rw [if_pos c27] at H
        have c27b0 : decide ((wrap64 (a0_0 - a3)) < a1) = true := decide_eq_true c27
        clear c27
        have H' := Aside0.mk H
        clear H
        have hnb28 := NB245_246.out
        have hnc28 := NB246_245.out
        have hcz29_0 := bc BK245 0 rfl
        have hcz29_1 := bc BK245 1 rfl
        have hcz29_2 := bc BK245 2 rfl
        have hcz29_3 := bc BK245 3 rfl
        have hfz29_0 := blk_frozen BK245.out 0
        have hfz29_1 := blk_frozen BK245.out 1
        have hfz29_2 := blk_frozen BK245.out 2
        have hfz29_3 := blk_frozen BK245.out 3
        go_wp2_with (first | ((with_reducible refine gate_callee (f := 12) rfl ?_); refine goesL_ (some 16) rfl rfl Try.func12 (by kernel_rfl) rfl #[.agg #[.int .i64 a0_0, .int .i64 a0_1, .int .i64 a0_2, .slice A0_3 l0_3.length c0_3]] rfl ga ?_; (with_reducible refine (mat_Matrix_Check.calls k a0_0 a0_1 a0_2 _ _ l0_3 t247 _ ?side1 ?side2 A9.out).mono ?_); (case side1 => repeat (first | exact (Kd.C_below HR0_3.out HB.out) | (with_reducible refine Kd.C_alloc ?_ _) | (with_reducible refine Kd.C_drewN ?_ _) | (with_reducible refine Kd.C_drew ?_))); (case side2 => exact HC0_3.out); rintro e w30 ⟨rfl, hb⟩; refine ⟨_, rfl, ?_⟩; refine ax3 (bb BK245 hb) (bb BK246 hb) (below_step bes hb) ?_; clear BK245; clear BK246; clear HB; intro BK245 BK246 HB; (try clear hb); have hcz31_0 := bc BK245 0 rfl; have hcz31_1 := bc BK245 1 rfl; have hcz31_2 := bc BK245 2 rfl; have hcz31_3 := bc BK245 3 rfl; have hfz31_0 := blk_frozen BK245.out 0; have hfz31_1 := blk_frozen BK245.out 1; have hfz31_2 := blk_frozen BK245.out 2; have hfz31_3 := blk_frozen BK245.out 3))
        go_meet
        case rel => exact ⟨_, (true), (by first | rfl | (simp; done) | (simp [*]; done)), H', ⟨by first | omega | exact Nat.le_refl _⟩, ⟨kb BK245⟩, ⟨kb BK246⟩, ⟨bes⟩⟩
       ·
        rw [if_neg c27] at H
        have c27b0 : decide ((wrap64 (a0_0 - a3)) < a1) = false := decide_eq_false c27
        clear c27
        have H' := Aside0.mk H
        clear H
        have hnb32 := NB245_246.out
        have hnc32 := NB246_245.out
        have hcz33_0 := bc BK245 0 rfl
        have hcz33_1 := bc BK245 1 rfl
        have hcz33_2 := bc BK245 2 rfl
        have hcz33_3 := bc BK245 3 rfl
        have hfz33_0 := blk_frozen BK245.out 0
        have hfz33_1 := blk_frozen BK245.out 1
        have hfz33_2 := blk_frozen BK245.out 2
        have hfz33_3 := blk_frozen BK245.out 3
        go_wp2_with (first | ((with_reducible refine gate_callee (f := 12) rfl ?_); refine goesL_ (some 16) rfl rfl Try.func12 (by kernel_rfl) rfl #[.agg #[.int .i64 a0_0, .int .i64 a0_1, .int .i64 a0_2, .slice A0_3 l0_3.length c0_3]] rfl ga ?_; (with_reducible refine (mat_Matrix_Check.calls k a0_0 a0_1 a0_2 _ _ l0_3 t247 _ ?side1 ?side2 A9.out).mono ?_); (case side1 => repeat (first | exact (Kd.C_below HR0_3.out HB.out) | (with_reducible refine Kd.C_alloc ?_ _) | (with_reducible refine Kd.C_drewN ?_ _) | (with_reducible refine Kd.C_drew ?_))); (case side2 => exact HC0_3.out); rintro e w34 ⟨rfl, hb⟩; refine ⟨_, rfl, ?_⟩; refine ax3 (bb BK245 hb) (bb BK246 hb) (below_step bes hb) ?_; clear BK245; clear BK246; clear HB; intro BK245 BK246 HB; (try clear hb); have hcz35_0 := bc BK245 0 rfl; have hcz35_1 := bc BK245 1 rfl; have hcz35_2 := bc BK245 2 rfl; have hcz35_3 := bc BK245 3 rfl; have hfz35_0 := blk_frozen BK245.out 0; have hfz35_1 := blk_frozen BK245.out 1; have hfz35_2 := blk_frozen BK245.out 2; have hfz35_3 := blk_frozen BK245.out 3))
        go_meet
        case rel => exact ⟨_, (decide (a2 > (wrap64 (a0_1 - a4)))), (by first | rfl | (simp; done) | (simp [*]; done)), H', ⟨by first | omega | exact Nat.le_refl _⟩, ⟨kb BK245⟩, ⟨kb BK246⟩, ⟨bes⟩⟩
  ·
   rw [if_neg c10] at H
   have c10b0 : (t247 == 0) = false := beq_eq_false_iff_ne.mpr c10
   have c10b1 : (t247 != 0) = true := bne_iff_ne.mpr c10
   (first | rw [c10b0] | (simp only [i64_w, i32_w]; rw [c10b0]) | skip)
   have H' := Aside0.mk H
   clear H
   have hnb36 := NB245_246.out
   have hnc36 := NB246_245.out
   have hcz37_0 := bc BK245 0 rfl
   have hcz37_1 := bc BK245 1 rfl
   have hcz37_2 := bc BK245 2 rfl
   have hcz37_3 := bc BK245 3 rfl
   have hfz37_0 := blk_frozen BK245.out 0
   have hfz37_1 := blk_frozen BK245.out 1
   have hfz37_2 := blk_frozen BK245.out 2
   have hfz37_3 := blk_frozen BK245.out 3
   go_wp2_with (first | ((with_reducible refine gate_callee (f := 12) rfl ?_); refine goesL_ (some 16) rfl rfl Try.func12 (by kernel_rfl) rfl #[.agg #[.int .i64 a0_0, .int .i64 a0_1, .int .i64 a0_2, .slice A0_3 l0_3.length c0_3]] rfl ga ?_; (with_reducible refine (mat_Matrix_Check.calls k a0_0 a0_1 a0_2 _ _ l0_3 t247 _ ?side1 ?side2 A9.out).mono ?_); (case side1 => repeat (first | exact (Kd.C_below HR0_3.out HB.out) | (with_reducible refine Kd.C_alloc ?_ _) | (with_reducible refine Kd.C_drewN ?_ _) | (with_reducible refine Kd.C_drew ?_))); (case side2 => exact HC0_3.out); rintro e w38 ⟨rfl, hb⟩; refine ⟨_, rfl, ?_⟩; refine ax3 (bb BK245 hb) (bb BK246 hb) (below_step bes hb) ?_; clear BK245; clear BK246; clear HB; intro BK245 BK246 HB; (try clear hb)))
   go_meet
   case rel => exact ⟨_, (true), (by first | rfl | (simp; done) | (simp [*]; done)), H', ⟨by first | omega | exact Nat.le_refl _⟩, ⟨kb BK245⟩, ⟨kb BK246⟩, ⟨bes⟩⟩
 case rest =>
  clear HC6
  try clear c1
  try clear c2
  try clear p2
  try clear c3
  try clear p6
  try clear c10
  try clear c10b0
  try clear c10b1
  try clear c11
  try clear c11b0
  try clear c12
  try clear c13
  try clear c15
  try clear c15b0
  try clear c16
  try clear c19
  try clear c19b0
  try clear c20
  try clear c23
  try clear c23b0
  try clear c24
  try clear c27
  try clear c27b0
  try clear c28
  try clear c32
  try clear c36
  try clear hcz13_0
  try clear hcz13_1
  try clear hcz13_2
  try clear hcz13_3
  try clear hcz17_0
  try clear hcz17_1
  try clear hcz17_2
  try clear hcz17_3
  try clear hcz21_0
  try clear hcz21_1
  try clear hcz21_2
  try clear hcz21_3
  try clear hcz25_0
  try clear hcz25_1
  try clear hcz25_2
  try clear hcz25_3
  try clear hcz29_0
  try clear hcz29_1
  try clear hcz29_2
  try clear hcz29_3
  try clear hcz31_0
  try clear hcz31_1
  try clear hcz31_2
  try clear hcz31_3
  try clear hcz33_0
  try clear hcz33_1
  try clear hcz33_2
  try clear hcz33_3
  try clear hcz35_0
  try clear hcz35_1
  try clear hcz35_2
  try clear hcz35_3
  try clear hcz37_0
  try clear hcz37_1
  try clear hcz37_2
  try clear hcz37_3
  try clear hfz13_0
  try clear hfz13_1
  try clear hfz13_2
  try clear hfz13_3
  try clear hfz17_0
  try clear hfz17_1
  try clear hfz17_2
  try clear hfz17_3
  try clear hfz21_0
  try clear hfz21_1
  try clear hfz21_2
  try clear hfz21_3
  try clear hfz25_0
  try clear hfz25_1
  try clear hfz25_2
  try clear hfz25_3
  try clear hfz29_0
  try clear hfz29_1
  try clear hfz29_2
  try clear hfz29_3
  try clear hfz31_0
  try clear hfz31_1
  try clear hfz31_2
  try clear hfz31_3
  try clear hfz33_0
  try clear hfz33_1
  try clear hfz33_2
  try clear hfz33_3
  try clear hfz35_0
  try clear hfz35_1
  try clear hfz35_2
  try clear hfz35_3
  try clear hfz37_0
  try clear hfz37_1
  try clear hfz37_2
  try clear hfz37_3
  obtain ⟨kq, x49_5, rfl, HA, HJ5, BK245, BK246, HB⟩ := hcut
  cases kq with
  | zero => exact absurd HA.out (by simp [mat_Matrix_Cut.j0])
  | succ kj5 =>
   have H := HA.out
   clear HA
   simp only [mat_Matrix_Cut.j0] at H
   by_cases c39 : x49_5 = true
   ·
    subst c39
    rw [if_pos rfl] at H
    simp only [Option.some.injEq, Prod.mk.injEq] at H
    obtain ⟨rfl, rfl, rfl, rfl, rfl⟩ := H
    have hnb40 := NB246_245.out
    have hnc40 := NB245_246.out
    have hcz41_0 := bc BK246 0 rfl
    have hcz41_1 := bc BK246 1 rfl
    have hcz41_2 := bc BK246 2 rfl
    have hcz41_3 := bc BK246 3 rfl
    have hfz41_0 := blk_frozen BK246.out 0
    have hfz41_1 := blk_frozen BK246.out 1
    have hfz41_2 := blk_frozen BK246.out 2
    have hfz41_3 := blk_frozen BK246.out 3
    go_wp2
    refine bodyPost_ret (results_ct rfl _ _ gb246 25 #[.int .i64 0, .int .i64 0, .int .i64 0, .slice none 0 0] (0, 0) _ rfl (by (with_reducible repeat (first | refine blk_drewN ?_ _ | refine blk_drew ?_ | refine blk_alloc ?_ _)); refine blk_put (cs := #[.int .i64 0, .int .i64 0, .int .i64 0, .slice none 0 0]) ?_ 3 _ rfl; (with_reducible repeat (first | refine blk_drewN ?_ _ | refine blk_drew ?_ | refine blk_alloc ?_ _)); refine blk_put (cs := #[.int .i64 0, .int .i64 0, .int .i64 0, .slice none 0 0]) ?_ 2 _ rfl; (with_reducible repeat (first | refine blk_drewN ?_ _ | refine blk_drew ?_ | refine blk_alloc ?_ _)); refine blk_put (cs := #[.int .i64 0, .int .i64 0, .int .i64 0, .slice none 0 0]) ?_ 1 _ rfl; (with_reducible repeat (first | refine blk_drewN ?_ _ | refine blk_drew ?_ | refine blk_alloc ?_ _)); refine blk_put (cs := #[.int .i64 0, .int .i64 0, .int .i64 0, .slice none 0 0]) ?_ 0 _ rfl; (with_reducible repeat (first | refine blk_drewN ?_ _ | refine blk_drew ?_ | refine blk_alloc ?_ _)); exact BK246.out) Try.underlying25 rfl (by kernel_rfl)) rfl ?_
    exact ⟨_, er, by first | exact Kd.R_nil _ _ _ _ _ | exact Kd.N_nil _ _ _ _ _ | exact Kd.V_nil _ _ _ _ _ | exact Kd.Q_nil _ _ _ _ _ | exact Kd.S_nil _ _ _ _ _, bes⟩
   ·
    replace c39 := Bool.eq_false_iff.mpr c39
    subst c39
    rw [if_neg (show ¬ (false = true) by decide)] at H
    obtain ⟨⟨t248, t249, t250, t251⟩, A420, H⟩ := Option.bind_eq_some_iff.mp H
    (try dsimp -simprocs only at H)
    have A42 := Aside0.mk A420
    clear A420
    have H' := Aside0.mk H
    clear H
    go_wp2_with (first | ((with_reducible refine gate_callee (f := 18) rfl ?_); refine goesL_ (some 53) rfl rfl Try.func18 (by kernel_rfl) rfl #[.int .i64 a3, .int .i64 a4] rfl ga ?_; (with_reducible refine (mat_New.calls a3 a4 t248 t249 t250 t251 _ A42.out).mono ?_); rintro e w43 ⟨v252, rfl, ho0, hb⟩; refine ⟨_, rfl, ?_⟩; refine ax4 (Kd.R_lower ho0 (below_size bes)) (bb BK245 hb) (bb BK246 hb) (below_step bes hb) ?_; clear BK245; clear BK246; clear HB; intro HO253 BK245 BK246 HB; (try clear hb); (try clear ho0)) | ((with_reducible refine gate_dst (N := 12) rfl ?_); refine gbox (N := 12) (cs := #[.int .i64 0, .int .i64 0, .int .i64 0, .slice none 0 0]) (t := 25) ?_; intro gb254 hg w44 hbox hb; refine ax11 (Kd.R_below (kr HO253) hb) (bb BK245 hb) (bb BK246 hb) (below_step bes hb) hbox ((ge hg : w.heap.size ≤ gb254)) ((ge hg : w.heap.size ≤ gb254)) (nl hg BK245) (ng hg BK245) (nl hg BK246) (ng hg BK246) ?_; clear HO253; clear BK245; clear BK246; clear HB; intro HO253 BK245 BK246 HB BK254 GW254 GE254 NB245_254 NB254_245 NB246_254 NB254_246; clear hb hbox hg; have hnb45 := NB254_245.out; have hnc45 := NB245_254.out; have hnb46 := NB254_246.out; have hnc46 := NB246_254.out; have hcz47_0 := bc BK254 0 rfl; have hcz47_1 := bc BK254 1 rfl; have hcz47_2 := bc BK254 2 rfl; have hcz47_3 := bc BK254 3 rfl; have hfz47_0 := blk_frozen BK254.out 0; have hfz47_1 := blk_frozen BK254.out 1; have hfz47_2 := blk_frozen BK254.out 2; have hfz47_3 := blk_frozen BK254.out 3; obtain ⟨Ao48, co48, eo48⟩ := Kd.R_slice HO253.out; subst eo48))
    go_loopg [55] kj5 (fun kq v55 w' => ∃ (x55_2 : Int) (x255003_2 : List Int) (u255003 : Value), v55 = .int .i64 x55_2 ∧ Aside0 (mat_Matrix_Cut.l0 kq a1 a2 a4 a3 x55_2 a0_0 a0_1 a0_2 l0_3 t248 t249 t250 x255003_2 = some (r1, r2, r3, r4, r5)) ∧ Aside0 (kq ≤ kj5) ∧ Aside0 (Kd.R (Kd.int .u64) 30 w' w.heap.size (fun _ => True) u255003 x255003_2) ∧ Aside0 (w'.heap[gb245]? = some (.cells #[.int .i64 a0_0, .int .i64 a0_1, .int .i64 a0_2, (.slice A0_3 l0_3.length c0_3)] 25 (0, 0))) ∧ Aside0 (w'.heap[gb246]? = some (.cells #[.int .i64 0, .int .i64 0, .int .i64 0, (.slice none 0 0)] 25 (0, 0))) ∧ Aside0 (w'.heap[gb254]? = some (.cells #[.int .i64 t248, .int .i64 t249, .int .i64 t250, u255003] 25 (0, 0))) ∧ Aside0 (Below w.heap.size w w'))
    case atStart => exact ⟨(0), (t251), (.slice Ao48 t251.length co48), (by first | rfl | (simp; done) | (simp [*]; done)), H', ⟨Nat.le_refl _⟩, ⟨by (with_reducible repeat (first | apply Kd.R_alloc | apply Kd.R_drewN | apply Kd.R_drew)); exact Kd.R_mono (Kd.R_far (p := ⟨gb254, 3, none⟩) (Kd.R_far (p := ⟨gb254, 2, none⟩) (Kd.R_far (p := ⟨gb254, 1, none⟩) (Kd.R_far (p := ⟨gb254, 0, none⟩) (Kd.R_types HO253.out BK254.out (by decide)) (fun _ hk => hk.2) (.int .i64 t248)) (fun _ hk => hk.2) (.int .i64 t249)) (fun _ hk => hk.2) (.int .i64 t250)) (fun _ hk => hk.2) (.slice Ao48 t251.length co48)) (fun _ hk => trivial)⟩, ⟨by (with_reducible repeat (first | refine blk_drewN ?_ _ | refine blk_drew ?_ | refine blk_alloc ?_ _)); refine blk_far ?_ NB245_254.out _; (with_reducible repeat (first | refine blk_drewN ?_ _ | refine blk_drew ?_ | refine blk_alloc ?_ _)); refine blk_far ?_ NB245_254.out _; (with_reducible repeat (first | refine blk_drewN ?_ _ | refine blk_drew ?_ | refine blk_alloc ?_ _)); refine blk_far ?_ NB245_254.out _; (with_reducible repeat (first | refine blk_drewN ?_ _ | refine blk_drew ?_ | refine blk_alloc ?_ _)); refine blk_far ?_ NB245_254.out _; (with_reducible repeat (first | refine blk_drewN ?_ _ | refine blk_drew ?_ | refine blk_alloc ?_ _)); exact BK245.out⟩, ⟨by (with_reducible repeat (first | refine blk_drewN ?_ _ | refine blk_drew ?_ | refine blk_alloc ?_ _)); refine blk_far ?_ NB246_254.out _; (with_reducible repeat (first | refine blk_drewN ?_ _ | refine blk_drew ?_ | refine blk_alloc ?_ _)); refine blk_far ?_ NB246_254.out _; (with_reducible repeat (first | refine blk_drewN ?_ _ | refine blk_drew ?_ | refine blk_alloc ?_ _)); refine blk_far ?_ NB246_254.out _; (with_reducible repeat (first | refine blk_drewN ?_ _ | refine blk_drew ?_ | refine blk_alloc ?_ _)); refine blk_far ?_ NB246_254.out _; (with_reducible repeat (first | refine blk_drewN ?_ _ | refine blk_drew ?_ | refine blk_alloc ?_ _)); exact BK246.out⟩, ⟨by (with_reducible repeat (first | refine blk_drewN ?_ _ | refine blk_drew ?_ | refine blk_alloc ?_ _)); refine blk_put (cs := #[.int .i64 t248, .int .i64 t249, .int .i64 t250, .slice none 0 0]) ?_ 3 _ rfl; (with_reducible repeat (first | refine blk_drewN ?_ _ | refine blk_drew ?_ | refine blk_alloc ?_ _)); refine blk_put (cs := #[.int .i64 t248, .int .i64 t249, .int .i64 0, .slice none 0 0]) ?_ 2 _ rfl; (with_reducible repeat (first | refine blk_drewN ?_ _ | refine blk_drew ?_ | refine blk_alloc ?_ _)); refine blk_put (cs := #[.int .i64 t248, .int .i64 0, .int .i64 0, .slice none 0 0]) ?_ 1 _ rfl; (with_reducible repeat (first | refine blk_drewN ?_ _ | refine blk_drew ?_ | refine blk_alloc ?_ _)); refine blk_put (cs := #[.int .i64 0, .int .i64 0, .int .i64 0, .slice none 0 0]) ?_ 0 _ rfl; (with_reducible repeat (first | refine blk_drewN ?_ _ | refine blk_drew ?_ | refine blk_alloc ?_ _)); exact BK254.out⟩, ⟨bes⟩⟩
    case round =>
     clear H'
     try clear c1
     try clear c2
     try clear p2
     try clear c3
     try clear c4
     try clear p6
     try clear c10
     try clear c10b0
     try clear c10b1
     try clear c11
     try clear c11b0
     try clear c12
     try clear c13
     try clear c15
     try clear c15b0
     try clear c16
     try clear c18
     try clear c19
     try clear c19b0
     try clear c20
     try clear c23
     try clear c23b0
     try clear c24
     try clear c27
     try clear c27b0
     try clear c28
     try clear c32
     try clear c36
     try clear c39
     try clear c40
     try clear c45
     try clear c46
     try clear hcz13_0
     try clear hcz13_1
     try clear hcz13_2
     try clear hcz13_3
     try clear hcz17_0
     try clear hcz17_1
     try clear hcz17_2
     try clear hcz17_3
     try clear hcz21_0
     try clear hcz21_1
     try clear hcz21_2
     try clear hcz21_3
     try clear hcz25_0
     try clear hcz25_1
     try clear hcz25_2
     try clear hcz25_3
     try clear hcz29_0
     try clear hcz29_1
     try clear hcz29_2
     try clear hcz29_3
     try clear hcz31_0
     try clear hcz31_1
     try clear hcz31_2
     try clear hcz31_3
     try clear hcz33_0
     try clear hcz33_1
     try clear hcz33_2
     try clear hcz33_3
     try clear hcz35_0
     try clear hcz35_1
     try clear hcz35_2
     try clear hcz35_3
     try clear hcz37_0
     try clear hcz37_1
     try clear hcz37_2
     try clear hcz37_3
     try clear hcz41_0
     try clear hcz41_1
     try clear hcz41_2
     try clear hcz41_3
     try clear hcz47_0
     try clear hcz47_1
     try clear hcz47_2
     try clear hcz47_3
     try clear hfz13_0
     try clear hfz13_1
     try clear hfz13_2
     try clear hfz13_3
     try clear hfz17_0
     try clear hfz17_1
     try clear hfz17_2
     try clear hfz17_3
     try clear hfz21_0
     try clear hfz21_1
     try clear hfz21_2
     try clear hfz21_3
     try clear hfz25_0
     try clear hfz25_1
     try clear hfz25_2
     try clear hfz25_3
     try clear hfz29_0
     try clear hfz29_1
     try clear hfz29_2
     try clear hfz29_3
     try clear hfz31_0
     try clear hfz31_1
     try clear hfz31_2
     try clear hfz31_3
     try clear hfz33_0
     try clear hfz33_1
     try clear hfz33_2
     try clear hfz33_3
     try clear hfz35_0
     try clear hfz35_1
     try clear hfz35_2
     try clear hfz35_3
     try clear hfz37_0
     try clear hfz37_1
     try clear hfz37_2
     try clear hfz37_3
     try clear hfz41_0
     try clear hfz41_1
     try clear hfz41_2
     try clear hfz41_3
     try clear hfz47_0
     try clear hfz47_1
     try clear hfz47_2
     try clear hfz47_3
     try clear p2
     try clear p6
     obtain ⟨x55_2, x255003_2, u255003, rfl, HA, HK2, HO_255003, BK245, BK246, BK254, HB⟩ := hrel
     cases gk with
     | zero => exact absurd HA.out (by simp [mat_Matrix_Cut.l0])
     | succ k2 =>
      have H := HA.out
      clear HA
      simp only [mat_Matrix_Cut.l0] at H
      by_cases c49 : x55_2 < a3
      ·
       rw [if_pos c49] at H
       have c49b0 : decide (x55_2 < a3) = true := decide_eq_true c49
       clear c49
       have H' := Aside0.mk H
       clear H
       go_wp2
       go_loopg [59] k2 (fun kq v59 w' => ∃ (x59_3 : Int) (x255003_3 : List Int) (u255003 : Value), v59 = .int .i64 x59_3 ∧ Aside0 (mat_Matrix_Cut.l1 kq a1 a2 a4 x55_2 a3 x55_2 a4 x59_3 a0_0 a0_1 a0_2 l0_3 t248 t249 t250 x255003_3 = some (r1, r2, r3, r4, r5)) ∧ Aside0 (kq ≤ k2) ∧ Aside0 (Kd.R (Kd.int .u64) 30 w' w.heap.size (fun _ => True) u255003 x255003_3) ∧ Aside0 (w'.heap[gb245]? = some (.cells #[.int .i64 a0_0, .int .i64 a0_1, .int .i64 a0_2, (.slice A0_3 l0_3.length c0_3)] 25 (0, 0))) ∧ Aside0 (w'.heap[gb246]? = some (.cells #[.int .i64 0, .int .i64 0, .int .i64 0, (.slice none 0 0)] 25 (0, 0))) ∧ Aside0 (w'.heap[gb254]? = some (.cells #[.int .i64 t248, .int .i64 t249, .int .i64 t250, u255003] 25 (0, 0))) ∧ Aside0 (Below w.heap.size w w'))
       case atStart => exact ⟨(0), (x255003_2), (u255003), (by first | rfl | (simp; done) | (simp [*]; done)), H', ⟨Nat.le_refl _⟩, ⟨kr HO_255003⟩, ⟨kb BK245⟩, ⟨kb BK246⟩, ⟨kb BK254⟩, ⟨bes⟩⟩
       case round =>
        clear H'
        try clear c1
        try clear c2
        try clear p2
        try clear c3
        try clear c4
        try clear p6
        try clear c10
        try clear c10b0
        try clear c10b1
        try clear c11
        try clear c11b0
        try clear c12
        try clear c13
        try clear c15
        try clear c15b0
        try clear c16
        try clear c18
        try clear c19
        try clear c19b0
        try clear c20
        try clear c23
        try clear c23b0
        try clear c24
        try clear c27
        try clear c27b0
        try clear c28
        try clear c32
        try clear c36
        try clear c39
        try clear c40
        try clear c45
        try clear c46
        try clear c49
        try clear c49b0
        try clear hcz13_0
        try clear hcz13_1
        try clear hcz13_2
        try clear hcz13_3
        try clear hcz17_0
        try clear hcz17_1
        try clear hcz17_2
        try clear hcz17_3
        try clear hcz21_0
        try clear hcz21_1
        try clear hcz21_2
        try clear hcz21_3
        try clear hcz25_0
        try clear hcz25_1
        try clear hcz25_2
        try clear hcz25_3
        try clear hcz29_0
        try clear hcz29_1
        try clear hcz29_2
        try clear hcz29_3
        try clear hcz31_0
        try clear hcz31_1
        try clear hcz31_2
        try clear hcz31_3
        try clear hcz33_0
        try clear hcz33_1
        try clear hcz33_2
        try clear hcz33_3
        try clear hcz35_0
        try clear hcz35_1
        try clear hcz35_2
        try clear hcz35_3
        try clear hcz37_0
        try clear hcz37_1
        try clear hcz37_2
        try clear hcz37_3
        try clear hcz41_0
        try clear hcz41_1
        try clear hcz41_2
        try clear hcz41_3
        try clear hcz47_0
        try clear hcz47_1
        try clear hcz47_2
        try clear hcz47_3
        try clear hfz13_0
        try clear hfz13_1
        try clear hfz13_2
        try clear hfz13_3
        try clear hfz17_0
        try clear hfz17_1
        try clear hfz17_2
        try clear hfz17_3
        try clear hfz21_0
        try clear hfz21_1
        try clear hfz21_2
        try clear hfz21_3
        try clear hfz25_0
        try clear hfz25_1
        try clear hfz25_2
        try clear hfz25_3
        try clear hfz29_0
        try clear hfz29_1
        try clear hfz29_2
        try clear hfz29_3
        try clear hfz31_0
        try clear hfz31_1
        try clear hfz31_2
        try clear hfz31_3
        try clear hfz33_0
        try clear hfz33_1
        try clear hfz33_2
        try clear hfz33_3
        try clear hfz35_0
        try clear hfz35_1
        try clear hfz35_2
        try clear hfz35_3
        try clear hfz37_0
        try clear hfz37_1
        try clear hfz37_2
        try clear hfz37_3
        try clear hfz41_0
        try clear hfz41_1
        try clear hfz41_2
        try clear hfz41_3
        try clear hfz47_0
        try clear hfz47_1
        try clear hfz47_2
        try clear hfz47_3
        try clear p2
        try clear p6
        obtain ⟨x59_3, x255003_3, u255003, rfl, HA, HK3, HO_255003, BK245, BK246, BK254, HB⟩ := hrel
        cases gk with
        | zero => exact absurd HA.out (by simp [mat_Matrix_Cut.l1])
        | succ k3 =>
         have H := HA.out
         clear HA
         simp only [mat_Matrix_Cut.l1] at H
         by_cases c50 : x59_3 < a4
         rotate_left
         ·
          rw [if_neg c50] at H
          have c50b0 : decide (x59_3 < a4) = false := decide_eq_false c50
          clear c50
          have H' := Aside0.mk H
          clear H
          go_wp2
          go_roundg k3
          case measure => have := HJ5.out; have := HK2.out; have := HK3.out; omega
          case rel => exact ⟨(wrap64 (x55_2 + 1)), (x255003_3), (u255003), (by first | rfl | (simp; done) | (simp [*]; done)), H', ⟨by have := HJ5.out; have := HK2.out; have := HK3.out; omega⟩, ⟨kr HO_255003⟩, ⟨kb BK245⟩, ⟨kb BK246⟩, ⟨kb BK254⟩, ⟨bes⟩⟩
         rw [if_pos c50] at H
         have c50b0 : decide (x59_3 < a4) = true := decide_eq_true c50
         clear c50
         obtain ⟨t255, A510, H⟩ := Option.bind_eq_some_iff.mp H
         (try dsimp -simprocs only at H)
         have A51 := Aside0.mk A510
         clear A510
         obtain ⟨t256, A520, H⟩ := Option.bind_eq_some_iff.mp H
         (try dsimp -simprocs only at H)
         have A52 := Aside0.mk A520
         clear A520
         have H' := Aside0.mk H
         clear H
         try go_wp2
         refine ax5 (Kd.R_drew HO_255003.out) (blk_drew BK245.out) (blk_drew BK246.out) (blk_drew BK254.out) (below_drew1 HB.out) ?_
         clear HO_255003 BK245 BK246 BK254 HB
         intro HO_255003 BK245 BK246 BK254 HB
         refine start_ (n := 12) (S := fun w' => w'.cell? ⟨gb254, 0, none⟩ = some (.int .i64 t248) ∧ w'.cell? ⟨gb254, 1, none⟩ = some (.int .i64 t249) ∧ w'.cell? ⟨gb254, 2, none⟩ = some (.int .i64 t250) ∧ w'.cell? ⟨gb254, 3, none⟩ = some (u255003) ∧ w'.cell? ⟨gb245, 0, none⟩ = some (.int .i64 a0_0) ∧ w'.cell? ⟨gb245, 1, none⟩ = some (.int .i64 a0_1) ∧ w'.cell? ⟨gb245, 2, none⟩ = some (.int .i64 a0_2) ∧ w'.cell? ⟨gb245, 3, none⟩ = some (.slice A0_3 l0_3.length c0_3)) (ds := []) #[false, false, false, false, false, false, false, false, false, false, false, false] (by kernel_rfl) rfl rfl ⟨(blk_cell BK254.out 0).trans rfl, (blk_cell BK254.out 1).trans rfl, (blk_cell BK254.out 2).trans rfl, (blk_cell BK254.out 3).trans rfl, (blk_cell BK245.out 0).trans rfl, (blk_cell BK245.out 1).trans rfl, (blk_cell BK245.out 2).trans rfl, (blk_cell BK245.out 3).trans rfl⟩ (fun hHeld => ?_); refine with_tabW mat_Matrix_Cut.tab10 mat_Matrix_Cut.bits10 (fun HT_ HW_ => ?_)
         generalize wr.drew = w53 at HO_255003 BK245 BK246 BK254 HB hHeld ⊢
         refine pure_ (i := 1) (N := some 63) (v := ?_) (a' := ?_) #[false, true, false, false, false, false, false, false, false, false, false, false] rfl rfl (any_of HT_.out (by kernel_rfl)) (fun _ _ _ h => h) (Or.inl ⟨by rfl, ?_⟩) ?_ ?_
         rotate_left
         ·
          intro w'
          go_simp
          with_reducible rfl
         rotate_left
         ·
          simp only [Act.put, sa0, sa1, sa2, i64_w, i32_w]
          rfl
         refine pure_ (i := 2) (N := some 64) (v := ?_) (a' := ?_) #[false, true, true, false, false, false, false, false, false, false, false, false] rfl rfl (any_of HT_.out (by kernel_rfl)) (fun _ _ _ h => h) (Or.inl ⟨by rfl, ?_⟩) ?_ ?_
         rotate_left
         ·
          intro w'
          go_simp
          with_reducible rfl
         rotate_left
         ·
          simp only [Act.put, sa0, sa1, sa2, i64_w, i32_w]
          rfl
         refine pure_ (i := 4) (N := some 66) (v := ?_) (a' := ?_) #[false, true, true, false, true, false, false, false, false, false, false, false] rfl rfl (any_of HT_.out (by kernel_rfl)) (fun _ _ _ h => h) (Or.inl ⟨by rfl, ?_⟩) ?_ ?_
         rotate_left
         ·
          intro w'
          go_simp
          with_reducible rfl
         rotate_left
         ·
          simp only [Act.put, sa0, sa1, sa2, i64_w, i32_w]
          rfl
         refine pure_ (i := 5) (N := some 67) (v := ?_) (a' := ?_) #[false, true, true, false, true, true, false, false, false, false, false, false] rfl rfl (any_of HT_.out (by kernel_rfl)) (fun _ _ _ h => h) (Or.inl ⟨by rfl, ?_⟩) ?_ ?_
         rotate_left
         ·
          intro w'
          go_simp
          with_reducible rfl
         rotate_left
         ·
          simp only [Act.put, sa0, sa1, sa2, i64_w, i32_w]
          rfl
         refine pure_ (i := 6) (N := some 68) (v := ?_) (a' := ?_) #[false, true, true, false, true, true, true, false, false, false, false, false] rfl rfl (any_of HT_.out (by kernel_rfl)) (fun _ _ _ h => h) (Or.inl ⟨by rfl, ?_⟩) ?_ ?_
         rotate_left
         ·
          intro w'
          go_simp
          with_reducible rfl
         rotate_left
         ·
          simp only [Act.put, sa0, sa1, sa2, i64_w, i32_w]
          rfl
         refine pure_ (i := 7) (N := some 69) (v := ?_) (a' := ?_) #[false, true, true, false, true, true, true, true, false, false, false, false] rfl rfl (any_of HT_.out (by kernel_rfl)) (fun _ _ _ h => h) (Or.inl ⟨by rfl, ?_⟩) ?_ ?_
         rotate_left
         ·
          intro w'
          go_simp
          with_reducible rfl
         rotate_left
         ·
          simp only [Act.put, sa0, sa1, sa2, i64_w, i32_w]
          rfl
         refine pure_ (i := 8) (N := some 70) (v := ?_) (a' := ?_) #[false, true, true, false, true, true, true, true, true, false, false, false] rfl rfl (any_of HT_.out (by kernel_rfl)) (fun _ _ _ h => h) (Or.inl ⟨by rfl, ?_⟩) ?_ ?_
         rotate_left
         ·
          intro w'
          go_simp
          with_reducible rfl
         rotate_left
         ·
          simp only [Act.put, sa0, sa1, sa2, i64_w, i32_w]
          rfl
         refine pure_ (i := 9) (N := some 71) (v := ?_) (a' := ?_) #[false, true, true, false, true, true, true, true, true, true, false, false] rfl rfl (any_of HT_.out (by kernel_rfl)) (fun _ _ _ h => h) (Or.inl ⟨by rfl, ?_⟩) ?_ ?_
         rotate_left
         ·
          intro w'
          go_simp
          with_reducible rfl
         rotate_left
         ·
          simp only [Act.put, sa0, sa1, sa2, i64_w, i32_w]
          rfl
         refine take_ (i := 0) (N := some 62) (v := ?_) (a' := ?_) #[true, true, true, false, true, true, true, true, true, true, false, false] rfl rfl (take_ofW HT_.out HW_.out (by kernel_rfl)) (fun _ _ _ h => h) (Or.inl ⟨by rfl, ?_⟩) hHeld ?_ ?_
         rotate_left
         ·
          rintro w' ⟨s0, s1, s2, s3, s4, s5, s6, s7⟩
          go_simp
          with_reducible rfl
         rotate_left
         ·
          simp only [Act.put, sa0, sa1, sa2, i64_w, i32_w]
          rfl
         refine take_ (i := 3) (N := some 65) (v := ?_) (a' := ?_) #[true, true, true, true, true, true, true, true, true, true, false, false] rfl rfl (take_ofW HT_.out HW_.out (by kernel_rfl)) (fun _ _ _ h => h) (Or.inl ⟨by rfl, ?_⟩) hHeld ?_ ?_
         rotate_left
         ·
          rintro w' ⟨s0, s1, s2, s3, s4, s5, s6, s7⟩
          go_simp
          with_reducible rfl
         rotate_left
         ·
          simp only [Act.put, sa0, sa1, sa2, i64_w, i32_w]
          rfl
         refine one_ (i := 10) (N := some 72) #[true, true, true, true, true, true, true, true, true, true, true, false] rfl rfl (one_of HT_.out (by kernel_rfl)) (by decide) (fun K hK => ?_)
         refine goes_ Try.func11 (by kernel_rfl) rfl #[.agg #[.int .i64 a0_0, .int .i64 a0_1, .int .i64 a0_2, .slice A0_3 l0_3.length c0_3], .int .i64 (wrap64 (a1 + x55_2)), .int .i64 (wrap64 (a2 + x59_3))] (by rfl) rfl rfl ga ?_
         with_reducible refine (mat_Matrix_At.calls a0_0 a0_1 a0_2 _ _ l0_3 (wrap64 (a1 + x55_2)) (wrap64 (a2 + x59_3)) t255 _ ?side1 ?side2 A51.out).mono ?_
         (case side1 => repeat (first | exact (Kd.C_below HR0_3.out HB.out) | (with_reducible refine Kd.C_alloc ?_ _) | (with_reducible refine Kd.C_drewN ?_ _) | (with_reducible refine Kd.C_drew ?_)))
         (case side2 => exact HC0_3.out)
         rintro e w54 ⟨rfl, hb⟩
         refine ⟨_, rfl, ?_⟩
         refine ax5 (Kd.R_below (kr HO_255003) hb) (bb BK245 hb) (bb BK246 hb) (bb BK254 hb) (below_step bes hb) ?_
         clear HO_255003 BK245 BK246 BK254 HB
         intro HO_255003 BK245 BK246 BK254 HB
         (try clear hb)
         (try clear hb2)
         (try clear hk)
         (try clear hi)
         obtain ⟨Ao55, co55, eo55⟩ := Kd.R_slice HO_255003.out
         (first | subst eo55 | (injection eo55 with f1_ f2_ f3_; have f4_ := f1_.symm; have f5_ := f3_.symm; clear f1_ f2_ f3_; subst f4_; subst f5_))
         refine hK.out _ _ ⟨(blk_cell BK254.out 0).trans rfl, (blk_cell BK254.out 1).trans rfl, (blk_cell BK254.out 2).trans rfl, (blk_cell BK254.out 3).trans rfl, (blk_cell BK245.out 0).trans rfl, (blk_cell BK245.out 1).trans rfl, (blk_cell BK245.out 2).trans rfl, (blk_cell BK245.out 3).trans rfl⟩ (fun hHeld => ?_)
         clear hK K
         refine norm_ (a' := ?_) ?_ ?_
         rotate_left
         ·
          show Act.put _ (some 72) _ = _
          simp only [Act.put, sa0, sa1, sa2, i64_w, i32_w]
          rfl
         refine one_ (i := 11) (N := some 73) #[true, true, true, true, true, true, true, true, true, true, true, true] rfl rfl (one_of HT_.out (by kernel_rfl)) (by decide) (fun K hK => ?_)
         refine goes_ Try.func14 (by kernel_rfl) rfl #[.agg #[.int .i64 t248, .int .i64 t249, .int .i64 t250, .slice Ao55 x255003_3.length co55], .int .i64 x55_2, .int .i64 x59_3, .int .u64 t255] (by rfl) rfl rfl ga ?_
         with_reducible refine (mat_Matrix_Set.calls t248 t249 t250 (fun k_ => some k_ = (.slice Ao55 x255003_3.length co55 : Value).ownBlock) (.slice Ao55 x255003_3.length co55) x255003_3 x55_2 x59_3 t255 t256 w _ ?side1 ?side2 A52.out).mono ?_
         (case side1 => repeat (first | (with_reducible first | exact HB.out | apply below_alloc | apply pw_below_drewN | apply below_drew1 | refine below_set ?_ GE245.out | refine below_set ?_ GE246.out | refine below_set ?_ GE254.out) | exact HB.out))
         (case side2 => exact Kd.R_tight rfl HO_255003.out)
         rintro e w56 ⟨rfl, hy0, hb, hkp⟩
         refine ⟨_, rfl, ?_⟩
         refine ax5 (Kd.R_reok rfl hy0 (fun k_ e_ => HO_255003.out.1 k_ e_)) (blk_kept (kb BK245) hkp (fun hs_ => (fun e_ => (Kd.R_ne HO_255003.out BK245.out (by decide)) e_) hs_)) (blk_kept (kb BK246) hkp (fun hs_ => (fun e_ => (Kd.R_ne HO_255003.out BK246.out (by decide)) e_) hs_)) (blk_kept (kb BK254) hkp (fun hs_ => (fun e_ => (Kd.R_ne HO_255003.out BK254.out (by decide)) e_) hs_)) hb ?_
         clear HO_255003 BK245 BK246 BK254 HB
         intro HO_255003 BK245 BK246 BK254 HB
         (try clear hb)
         (try clear hkp)
         (try clear hy0)
         refine hK.out _ _ ⟨(blk_cell BK254.out 0).trans rfl, (blk_cell BK254.out 1).trans rfl, (blk_cell BK254.out 2).trans rfl, (blk_cell BK254.out 3).trans rfl, (blk_cell BK245.out 0).trans rfl, (blk_cell BK245.out 1).trans rfl, (blk_cell BK245.out 2).trans rfl, (blk_cell BK245.out 3).trans rfl⟩ (fun hHeld => ?_)
         clear hK K
         refine norm_ (a' := ?_) ?_ ?_
         rotate_left
         ·
          show Act.put _ (some 73) _ = _
          simp only [Act.put, sa0, sa1, sa2, i64_w, i32_w]
          rfl
         refine done_ (done_of HT_.out (by kernel_rfl)) ?_
         try go_wp2
         go_roundg k3
         case measure => have := HJ5.out; have := HK2.out; have := HK3.out; omega
         case rel => exact ⟨(wrap64 (x59_3 + 1)), (t256), (.slice Ao55 x255003_3.length co55), (by first | rfl | (simp; done) | (simp [*]; done)), H', ⟨by have := HJ5.out; have := HK2.out; have := HK3.out; omega⟩, ⟨kr HO_255003⟩, ⟨kb BK245⟩, ⟨kb BK246⟩, ⟨kb BK254⟩, ⟨bes⟩⟩
      ·
       rw [if_neg c49] at H
       have c49b0 : decide (x55_2 < a3) = false := decide_eq_false c49
       clear c49
       simp only [Option.some.injEq, Prod.mk.injEq] at H
       obtain ⟨rfl, rfl, rfl, rfl, rfl⟩ := H
       have hnb57 := NB254_245.out
       have hnc57 := NB245_254.out
       have hnb58 := NB254_246.out
       have hnc58 := NB246_254.out
       have hcz59_0 := bc BK254 0 rfl
       have hcz59_1 := bc BK254 1 rfl
       have hcz59_2 := bc BK254 2 rfl
       have hcz59_3 := bc BK254 3 rfl
       have hfz59_0 := blk_frozen BK254.out 0
       have hfz59_1 := blk_frozen BK254.out 1
       have hfz59_2 := blk_frozen BK254.out 2
       have hfz59_3 := blk_frozen BK254.out 3
       have hnb60 := NB246_245.out
       have hnc60 := NB245_246.out
       have hcz61_0 := bc BK246 0 rfl
       have hcz61_1 := bc BK246 1 rfl
       have hcz61_2 := bc BK246 2 rfl
       have hcz61_3 := bc BK246 3 rfl
       have hfz61_0 := blk_frozen BK246.out 0
       have hfz61_1 := blk_frozen BK246.out 1
       have hfz61_2 := blk_frozen BK246.out 2
       have hfz61_3 := blk_frozen BK246.out 3
       obtain ⟨Ao62, co62, eo62⟩ := Kd.R_slice HO_255003.out
       subst eo62
       go_wp2
       refine bodyPost_ret (results_ct rfl _ _ gb246 25 #[.int .i64 t248, .int .i64 t249, .int .i64 t250, .slice Ao62 x255003_2.length co62] (0, 0) _ rfl (by (with_reducible repeat (first | refine blk_drewN ?_ _ | refine blk_drew ?_ | refine blk_alloc ?_ _)); refine blk_put (cs := #[.int .i64 t248, .int .i64 t249, .int .i64 t250, .slice none 0 0]) ?_ 3 _ rfl; (with_reducible repeat (first | refine blk_drewN ?_ _ | refine blk_drew ?_ | refine blk_alloc ?_ _)); refine blk_put (cs := #[.int .i64 t248, .int .i64 t249, .int .i64 0, .slice none 0 0]) ?_ 2 _ rfl; (with_reducible repeat (first | refine blk_drewN ?_ _ | refine blk_drew ?_ | refine blk_alloc ?_ _)); refine blk_put (cs := #[.int .i64 t248, .int .i64 0, .int .i64 0, .slice none 0 0]) ?_ 1 _ rfl; (with_reducible repeat (first | refine blk_drewN ?_ _ | refine blk_drew ?_ | refine blk_alloc ?_ _)); refine blk_put (cs := #[.int .i64 0, .int .i64 0, .int .i64 0, .slice none 0 0]) ?_ 0 _ rfl; (with_reducible repeat (first | refine blk_drewN ?_ _ | refine blk_drew ?_ | refine blk_alloc ?_ _)); exact BK246.out) Try.underlying25 rfl (by kernel_rfl)) rfl ?_
       exact ⟨_, er, by (with_reducible repeat (first | apply Kd.R_alloc | apply Kd.R_drewN | apply Kd.R_drew)); exact Kd.R_mono (Kd.R_far (p := ⟨gb246, 3, none⟩) (Kd.R_far (p := ⟨gb246, 2, none⟩) (Kd.R_far (p := ⟨gb246, 1, none⟩) (Kd.R_far (p := ⟨gb246, 0, none⟩) (Kd.R_types HO_255003.out BK246.out (by decide)) (fun _ hk => hk.2) (.int .i64 t248)) (fun _ hk => hk.2) (.int .i64 t249)) (fun _ hk => hk.2) (.int .i64 t250)) (fun _ hk => hk.2) (.slice Ao62 x255003_2.length co62)) (fun _ hk => trivial), bes⟩

/-! ### mat_Matrix_Turn: function 16 -/
mutual
def mat_Matrix_Turn.l0 : Nat → Int → Int → Int → Int → Int → List Int → Int → Int → Int → List Int → Option (Int × Int × Int × List Int)
 | 0, _, _, _, _, _, _, _, _, _, _ => none
 | k + 1, x12, x13, x258000, x258001, x258002, x258003, x266000, x266001, x266002, x266003 => if x13 < x12 then (mat_Matrix_Turn.l1 k x13 x12 x13 x266001 0 x258000 x258001 x258002 x258003 x266000 x266001 x266002 x266003) else (some (x266000, x266001, x266002, x266003))
def mat_Matrix_Turn.l1 : Nat → Int → Int → Int → Int → Int → Int → Int → Int → List Int → Int → Int → Int → List Int → Option (Int × Int × Int × List Int)
 | 0, _, _, _, _, _, _, _, _, _, _, _, _, _ => none
 | k + 1, x4, x12, x13, x17, x18, x258000, x258001, x258002, x258003, x266000, x266001, x266002, x266003 => if x18 < x17 then ((mat_Matrix_At.f x258000 x258001 x258002 x258003 x18 x4).bind fun t266 => ((mat_Matrix_Set.f x266000 x266001 x266002 x266003 x4 x18 t266).bind fun t267 => (mat_Matrix_Turn.l1 k x4 x12 x13 x17 (wrap64 (x18 + 1)) x258000 x258001 x258002 x258003 x266000 x266001 x266002 t267))) else (mat_Matrix_Turn.l0 k x12 (wrap64 (x13 + 1)) x258000 x258001 x258002 x258003 x266000 x266001 x266002 x266003)
end
def mat_Matrix_Turn.f (k : Nat) (a0_0 : Int) (a0_1 : Int) (a0_2 : Int) (l0_3 : List Int) : Option (Int × Int × Int × List Int) := (mat_New.f a0_1 a0_0).bind fun bt259 => (mat_Matrix_Turn.l0 k bt259.1 0 a0_0 a0_1 a0_2 l0_3 bt259.1 bt259.2.1 bt259.2.2.1 bt259.2.2.2)
theorem mat_Matrix_Turn.mono_l : ∀ k, (∀ y0 y1 y2 y3 y4 y5 y6 y7 y8 y9, LeO (mat_Matrix_Turn.l0 k y0 y1 y2 y3 y4 y5 y6 y7 y8 y9) (mat_Matrix_Turn.l0 (k + 1) y0 y1 y2 y3 y4 y5 y6 y7 y8 y9)) ∧ (∀ y0 y1 y2 y3 y4 y5 y6 y7 y8 y9 y10 y11 y12, LeO (mat_Matrix_Turn.l1 k y0 y1 y2 y3 y4 y5 y6 y7 y8 y9 y10 y11 y12) (mat_Matrix_Turn.l1 (k + 1) y0 y1 y2 y3 y4 y5 y6 y7 y8 y9 y10 y11 y12))
 | 0 => ⟨fun _ _ _ _ _ _ _ _ _ _ r h => by simp [mat_Matrix_Turn.l0] at h, fun _ _ _ _ _ _ _ _ _ _ _ _ _ r h => by simp [mat_Matrix_Turn.l1] at h⟩
 | k + 1 => by
  obtain ⟨ih0, ih1⟩ := mat_Matrix_Turn.mono_l k
  refine ⟨?_, ?_⟩ <;> intros <;> (first | unfold mat_Matrix_Turn.l0 | unfold mat_Matrix_Turn.l1) <;>
   repeat' with_reducible first | apply ih0 | apply ih1 | exact LeO.refl _ | exact LeO.none _ | refine LeO.ite ?_ ?_ | refine LeO.bind ?_ (fun _ => ?_)
theorem mat_Matrix_Turn.mono : ∀ a0 a1 a2 a3 k, LeO (mat_Matrix_Turn.f k a0 a1 a2 a3) (mat_Matrix_Turn.f (k + 1) a0 a1 a2 a3) := by
 intro a0 a1 a2 a3 k
 obtain ⟨ih0, ih1⟩ := mat_Matrix_Turn.mono_l k
 unfold mat_Matrix_Turn.f
 repeat' with_reducible first | apply ih0 | apply ih1 | exact LeO.refl _ | exact LeO.none _ | refine LeO.ite ?_ ?_ | refine LeO.bind ?_ (fun _ => ?_)
def mat_Matrix_Turn.T8 : Bool × List (List Nat × List Nat) := (true, [([], []), ([], []), ([], []), ([], []), ([], []), ([], []), ([3, 4, 5], [3, 4, 5]), ([0, 1, 2, 6, 6], [0, 1, 2, 6])])
def mat_Matrix_Turn.B8 : List Nat := [0, 0, 0, 0, 0, 0, 56, 127]
theorem mat_Matrix_Turn.tab8 : rtab .any (opsOf Try.f16 8) = mat_Matrix_Turn.T8 := by kernel_rfl
theorem mat_Matrix_Turn.bits8 : waitsOk mat_Matrix_Turn.T8.2 mat_Matrix_Turn.B8 = true := by kernel_rfl
set_option maxHeartbeats 8000000 in
set_option maxRecDepth 100000 in
theorem mat_Matrix_Turn.calls (k : Nat) (a0_0 : Int) (a0_1 : Int) (a0_2 : Int) (A0_3 : Option Addr) (c0_3 : Nat) (l0_3 : List Int) (r1 : Int) (r2 : Int) (r3 : Int) (r4 : List Int) (w : World) (hr0_3 : Kd.C (Kd.int .u64) w A0_3 l0_3.length l0_3) (hc0_3 : l0_3.length ≤ c0_3) (h : mat_Matrix_Turn.f k a0_0 a0_1 a0_2 l0_3 = some (r1, r2, r3, r4)) :
  Calls Try.prog 16 #[.agg #[.int .i64 a0_0, .int .i64 a0_1, .int .i64 a0_2, .slice A0_3 l0_3.length c0_3]] w fun e w' => ∃ v3_ : Value, e = .returned (.agg #[.int .i64 r1, .int .i64 r2, .int .i64 r3, v3_]) ∧ Kd.R (Kd.int .u64) 30 w' w.heap.size (fun _ => True) v3_ r4 ∧ Below w.heap.size w w' := by
 have hu25 := Try.underlying25
 have HR0_3 := Aside0.mk hr0_3
 have HC0_3 := Aside0.mk hc0_3
 clear hr0_3 hc0_3
 have HB := Aside0.mk (Below.refl w.heap.size w)
 have H : ((mat_New.f a0_1 a0_0).bind fun bt259 => (mat_Matrix_Turn.l0 k bt259.1 0 a0_0 a0_1 a0_2 l0_3 bt259.1 bt259.2.1 bt259.2.2.1 bt259.2.2.2)) = some (r1, r2, r3, r4) := h
 clear h
 obtain ⟨⟨t259, t260, t261, t262⟩, A20, H⟩ := Option.bind_eq_some_iff.mp H
 (try dsimp -simprocs only at H)
 have A2 := Aside0.mk A20
 clear A20
 have H' := Aside0.mk H
 clear H
 go_enter Try.func16, Try.ntmps16
 go_wp2_with (first | ((with_reducible refine gate_dst (N := 1) rfl ?_); refine gbox (N := 1) (cs := #[.int .i64 a0_0, .int .i64 a0_1, .int .i64 a0_2, .slice A0_3 l0_3.length c0_3]) (t := 25) ?_; intro gb257 hg w3 hbox hb; refine ax4 (below_step bel hb) hbox ((ge hg : w.heap.size ≤ gb257)) ((ge hg : w.heap.size ≤ gb257)) ?_; clear HB; intro HB BK257 GW257 GE257; clear hb hbox hg) | ((with_reducible refine gate_dst (N := 2) rfl ?_); refine gbox (N := 2) (cs := #[.int .i64 0, .int .i64 0, .int .i64 0, .slice none 0 0]) (t := 25) ?_; intro gb258 hg w4 hbox hb; refine ax7 (bb BK257 hb) (below_step bes hb) hbox ((ge hg : w.heap.size ≤ gb258)) ((ge hg : w.heap.size ≤ gb258)) (nl hg BK257) (ng hg BK257) ?_; clear BK257; clear HB; intro BK257 HB BK258 GW258 GE258 NB257_258 NB258_257; clear hb hbox hg; have hnb5 := NB257_258.out; have hnc5 := NB258_257.out; have hcz6_0 := bc BK257 0 rfl; have hcz6_1 := bc BK257 1 rfl; have hcz6_2 := bc BK257 2 rfl; have hcz6_3 := bc BK257 3 rfl; have hfz6_0 := blk_frozen BK257.out 0; have hfz6_1 := blk_frozen BK257.out 1; have hfz6_2 := blk_frozen BK257.out 2; have hfz6_3 := blk_frozen BK257.out 3) | ((with_reducible refine gate_callee (f := 18) rfl ?_); refine goesL_ (some 10) rfl rfl Try.func18 (by kernel_rfl) rfl #[.int .i64 a0_1, .int .i64 a0_0] rfl ga ?_; (with_reducible refine (mat_New.calls a0_1 a0_0 t259 t260 t261 t262 _ A2.out).mono ?_); rintro e w7 ⟨v263, rfl, ho0, hb⟩; refine ⟨_, rfl, ?_⟩; refine ax4 (Kd.R_lower ho0 (below_size bes)) (bb BK257 hb) (bb BK258 hb) (below_step bes hb) ?_; clear BK257; clear BK258; clear HB; intro HO264 BK257 BK258 HB; (try clear hb); (try clear ho0)) | ((with_reducible refine gate_dst (N := 3) rfl ?_); refine gbox (N := 3) (cs := #[.int .i64 0, .int .i64 0, .int .i64 0, .slice none 0 0]) (t := 25) ?_; intro gb265 hg w8 hbox hb; refine ax11 (Kd.R_below (kr HO264) hb) (bb BK257 hb) (bb BK258 hb) (below_step bes hb) hbox ((ge hg : w.heap.size ≤ gb265)) ((ge hg : w.heap.size ≤ gb265)) (nl hg BK257) (ng hg BK257) (nl hg BK258) (ng hg BK258) ?_; clear HO264; clear BK257; clear BK258; clear HB; intro HO264 BK257 BK258 HB BK265 GW265 GE265 NB257_265 NB265_257 NB258_265 NB265_258; clear hb hbox hg; have hnb9 := NB265_257.out; have hnc9 := NB257_265.out; have hnb10 := NB265_258.out; have hnc10 := NB258_265.out; have hcz11_0 := bc BK265 0 rfl; have hcz11_1 := bc BK265 1 rfl; have hcz11_2 := bc BK265 2 rfl; have hcz11_3 := bc BK265 3 rfl; have hfz11_0 := blk_frozen BK265.out 0; have hfz11_1 := blk_frozen BK265.out 1; have hfz11_2 := blk_frozen BK265.out 2; have hfz11_3 := blk_frozen BK265.out 3; obtain ⟨Ao12, co12, eo12⟩ := Kd.R_slice HO264.out; subst eo12))
 go_loopg [13] k (fun kq v13 w' => ∃ (x13_1 : Int) (x266003_1 : List Int) (u266003 : Value), v13 = .int .i64 x13_1 ∧ Aside0 (mat_Matrix_Turn.l0 kq t259 x13_1 a0_0 a0_1 a0_2 l0_3 t259 t260 t261 x266003_1 = some (r1, r2, r3, r4)) ∧ Aside0 (kq ≤ k) ∧ Aside0 (Kd.R (Kd.int .u64) 30 w' w.heap.size (fun _ => True) u266003 x266003_1) ∧ Aside0 (w'.heap[gb257]? = some (.cells #[.int .i64 a0_0, .int .i64 a0_1, .int .i64 a0_2, (.slice A0_3 l0_3.length c0_3)] 25 (0, 0))) ∧ Aside0 (w'.heap[gb258]? = some (.cells #[.int .i64 0, .int .i64 0, .int .i64 0, (.slice none 0 0)] 25 (0, 0))) ∧ Aside0 (w'.heap[gb265]? = some (.cells #[.int .i64 t259, .int .i64 t260, .int .i64 t261, u266003] 25 (0, 0))) ∧ Aside0 (Below w.heap.size w w'))
 case atStart => exact ⟨(0), (t262), (.slice Ao12 t262.length co12), (by first | rfl | (simp; done) | (simp [*]; done)), H', ⟨Nat.le_refl _⟩, ⟨by (with_reducible repeat (first | apply Kd.R_alloc | apply Kd.R_drewN | apply Kd.R_drew)); exact Kd.R_mono (Kd.R_far (p := ⟨gb265, 3, none⟩) (Kd.R_far (p := ⟨gb265, 2, none⟩) (Kd.R_far (p := ⟨gb265, 1, none⟩) (Kd.R_far (p := ⟨gb265, 0, none⟩) (Kd.R_types HO264.out BK265.out (by decide)) (fun _ hk => hk.2) (.int .i64 t259)) (fun _ hk => hk.2) (.int .i64 t260)) (fun _ hk => hk.2) (.int .i64 t261)) (fun _ hk => hk.2) (.slice Ao12 t262.length co12)) (fun _ hk => trivial)⟩, ⟨by (with_reducible repeat (first | refine blk_drewN ?_ _ | refine blk_drew ?_ | refine blk_alloc ?_ _)); refine blk_far ?_ NB257_265.out _; (with_reducible repeat (first | refine blk_drewN ?_ _ | refine blk_drew ?_ | refine blk_alloc ?_ _)); refine blk_far ?_ NB257_265.out _; (with_reducible repeat (first | refine blk_drewN ?_ _ | refine blk_drew ?_ | refine blk_alloc ?_ _)); refine blk_far ?_ NB257_265.out _; (with_reducible repeat (first | refine blk_drewN ?_ _ | refine blk_drew ?_ | refine blk_alloc ?_ _)); refine blk_far ?_ NB257_265.out _; (with_reducible repeat (first | refine blk_drewN ?_ _ | refine blk_drew ?_ | refine blk_alloc ?_ _)); exact BK257.out⟩, ⟨by (with_reducible repeat (first | refine blk_drewN ?_ _ | refine blk_drew ?_ | refine blk_alloc ?_ _)); refine blk_far ?_ NB258_265.out _; (with_reducible repeat (first | refine blk_drewN ?_ _ | refine blk_drew ?_ | refine blk_alloc ?_ _)); refine blk_far ?_ NB258_265.out _; (with_reducible repeat (first | refine blk_drewN ?_ _ | refine blk_drew ?_ | refine blk_alloc ?_ _)); refine blk_far ?_ NB258_265.out _; (with_reducible repeat (first | refine blk_drewN ?_ _ | refine blk_drew ?_ | refine blk_alloc ?_ _)); refine blk_far ?_ NB258_265.out _; (with_reducible repeat (first | refine blk_drewN ?_ _ | refine blk_drew ?_ | refine blk_alloc ?_ _)); exact BK258.out⟩, ⟨by (with_reducible repeat (first | refine blk_drewN ?_ _ | refine blk_drew ?_ | refine blk_alloc ?_ _)); refine blk_put (cs := #[.int .i64 t259, .int .i64 t260, .int .i64 t261, .slice none 0 0]) ?_ 3 _ rfl; (with_reducible repeat (first | refine blk_drewN ?_ _ | refine blk_drew ?_ | refine blk_alloc ?_ _)); refine blk_put (cs := #[.int .i64 t259, .int .i64 t260, .int .i64 0, .slice none 0 0]) ?_ 2 _ rfl; (with_reducible repeat (first | refine blk_drewN ?_ _ | refine blk_drew ?_ | refine blk_alloc ?_ _)); refine blk_put (cs := #[.int .i64 t259, .int .i64 0, .int .i64 0, .slice none 0 0]) ?_ 1 _ rfl; (with_reducible repeat (first | refine blk_drewN ?_ _ | refine blk_drew ?_ | refine blk_alloc ?_ _)); refine blk_put (cs := #[.int .i64 0, .int .i64 0, .int .i64 0, .slice none 0 0]) ?_ 0 _ rfl; (with_reducible repeat (first | refine blk_drewN ?_ _ | refine blk_drew ?_ | refine blk_alloc ?_ _)); exact BK265.out⟩, ⟨bes⟩⟩
 case round =>
  clear H'
  try clear c1
  try clear p2
  try clear c5
  try clear c9
  try clear c10
  try clear hcz11_0
  try clear hcz11_1
  try clear hcz11_2
  try clear hcz11_3
  try clear hcz6_0
  try clear hcz6_1
  try clear hcz6_2
  try clear hcz6_3
  try clear hfz11_0
  try clear hfz11_1
  try clear hfz11_2
  try clear hfz11_3
  try clear hfz6_0
  try clear hfz6_1
  try clear hfz6_2
  try clear hfz6_3
  obtain ⟨x13_1, x266003_1, u266003, rfl, HA, HK1, HO_266003, BK257, BK258, BK265, HB⟩ := hrel
  cases gk with
  | zero => exact absurd HA.out (by simp [mat_Matrix_Turn.l0])
  | succ k1 =>
   have H := HA.out
   clear HA
   simp only [mat_Matrix_Turn.l0] at H
   by_cases c13 : x13_1 < t259
   ·
    rw [if_pos c13] at H
    have c13b0 : decide (x13_1 < t259) = true := decide_eq_true c13
    clear c13
    have H' := Aside0.mk H
    clear H
    have hnb14 := NB265_257.out
    have hnc14 := NB257_265.out
    have hnb15 := NB265_258.out
    have hnc15 := NB258_265.out
    have hcz16_0 := bc BK265 0 rfl
    have hcz16_1 := bc BK265 1 rfl
    have hcz16_2 := bc BK265 2 rfl
    have hcz16_3 := bc BK265 3 rfl
    have hfz16_0 := blk_frozen BK265.out 0
    have hfz16_1 := blk_frozen BK265.out 1
    have hfz16_2 := blk_frozen BK265.out 2
    have hfz16_3 := blk_frozen BK265.out 3
    go_wp2
    go_loopg [18] k1 (fun kq v18 w' => ∃ (x18_2 : Int) (x266003_2 : List Int) (u266003 : Value), v18 = .int .i64 x18_2 ∧ Aside0 (mat_Matrix_Turn.l1 kq x13_1 t259 x13_1 t260 x18_2 a0_0 a0_1 a0_2 l0_3 t259 t260 t261 x266003_2 = some (r1, r2, r3, r4)) ∧ Aside0 (kq ≤ k1) ∧ Aside0 (Kd.R (Kd.int .u64) 30 w' w.heap.size (fun _ => True) u266003 x266003_2) ∧ Aside0 (w'.heap[gb257]? = some (.cells #[.int .i64 a0_0, .int .i64 a0_1, .int .i64 a0_2, (.slice A0_3 l0_3.length c0_3)] 25 (0, 0))) ∧ Aside0 (w'.heap[gb258]? = some (.cells #[.int .i64 0, .int .i64 0, .int .i64 0, (.slice none 0 0)] 25 (0, 0))) ∧ Aside0 (w'.heap[gb265]? = some (.cells #[.int .i64 t259, .int .i64 t260, .int .i64 t261, u266003] 25 (0, 0))) ∧ Aside0 (Below w.heap.size w w'))
    case atStart => exact ⟨(0), (x266003_1), (u266003), (by first | rfl | (simp; done) | (simp [*]; done)), H', ⟨Nat.le_refl _⟩, ⟨kr HO_266003⟩, ⟨kb BK257⟩, ⟨kb BK258⟩, ⟨kb BK265⟩, ⟨bes⟩⟩
    case round =>
     clear H'
     try clear c1
     try clear p2
     try clear c5
     try clear c9
     try clear c10
     try clear c13
     try clear c13b0
     try clear c14
     try clear c15
     try clear c16
     try clear hcz11_0
     try clear hcz11_1
     try clear hcz11_2
     try clear hcz11_3
     try clear hcz16_0
     try clear hcz16_1
     try clear hcz16_2
     try clear hcz16_3
     try clear hcz6_0
     try clear hcz6_1
     try clear hcz6_2
     try clear hcz6_3
     try clear hfz11_0
     try clear hfz11_1
     try clear hfz11_2
     try clear hfz11_3
     try clear hfz16_0
     try clear hfz16_1
     try clear hfz16_2
     try clear hfz16_3
     try clear hfz6_0
     try clear hfz6_1
     try clear hfz6_2
     try clear hfz6_3
     try clear p2
     obtain ⟨x18_2, x266003_2, u266003, rfl, HA, HK2, HO_266003, BK257, BK258, BK265, HB⟩ := hrel
     cases gk with
     | zero => exact absurd HA.out (by simp [mat_Matrix_Turn.l1])
     | succ k2 =>
      have H := HA.out
      clear HA
      simp only [mat_Matrix_Turn.l1] at H
      by_cases c17 : x18_2 < t260
      rotate_left
      ·
       rw [if_neg c17] at H
       have c17b0 : decide (x18_2 < t260) = false := decide_eq_false c17
       clear c17
       have H' := Aside0.mk H
       clear H
       go_wp2
       go_roundg k2
       case measure => have := HK1.out; have := HK2.out; omega
       case rel => exact ⟨(wrap64 (x13_1 + 1)), (x266003_2), (u266003), (by first | rfl | (simp; done) | (simp [*]; done)), H', ⟨by have := HK1.out; have := HK2.out; omega⟩, ⟨kr HO_266003⟩, ⟨kb BK257⟩, ⟨kb BK258⟩, ⟨kb BK265⟩, ⟨bes⟩⟩
      rw [if_pos c17] at H
      have c17b0 : decide (x18_2 < t260) = true := decide_eq_true c17
      clear c17
      obtain ⟨t266, A180, H⟩ := Option.bind_eq_some_iff.mp H
      (try dsimp -simprocs only at H)
      have A18 := Aside0.mk A180
      clear A180
      obtain ⟨t267, A190, H⟩ := Option.bind_eq_some_iff.mp H
      (try dsimp -simprocs only at H)
      have A19 := Aside0.mk A190
      clear A190
      have H' := Aside0.mk H
      clear H
      try go_wp2
      refine ax5 (Kd.R_drew HO_266003.out) (blk_drew BK257.out) (blk_drew BK258.out) (blk_drew BK265.out) (below_drew1 HB.out) ?_
      clear HO_266003 BK257 BK258 BK265 HB
      intro HO_266003 BK257 BK258 BK265 HB
      refine start_ (n := 8) (S := fun w' => w'.cell? ⟨gb265, 0, none⟩ = some (.int .i64 t259) ∧ w'.cell? ⟨gb265, 1, none⟩ = some (.int .i64 t260) ∧ w'.cell? ⟨gb265, 2, none⟩ = some (.int .i64 t261) ∧ w'.cell? ⟨gb265, 3, none⟩ = some (u266003) ∧ w'.cell? ⟨gb257, 0, none⟩ = some (.int .i64 a0_0) ∧ w'.cell? ⟨gb257, 1, none⟩ = some (.int .i64 a0_1) ∧ w'.cell? ⟨gb257, 2, none⟩ = some (.int .i64 a0_2) ∧ w'.cell? ⟨gb257, 3, none⟩ = some (.slice A0_3 l0_3.length c0_3)) (ds := []) #[false, false, false, false, false, false, false, false] (by kernel_rfl) rfl rfl ⟨(blk_cell BK265.out 0).trans rfl, (blk_cell BK265.out 1).trans rfl, (blk_cell BK265.out 2).trans rfl, (blk_cell BK265.out 3).trans rfl, (blk_cell BK257.out 0).trans rfl, (blk_cell BK257.out 1).trans rfl, (blk_cell BK257.out 2).trans rfl, (blk_cell BK257.out 3).trans rfl⟩ (fun hHeld => ?_); refine with_tabW mat_Matrix_Turn.tab8 mat_Matrix_Turn.bits8 (fun HT_ HW_ => ?_)
      generalize wr.drew = w20 at HO_266003 BK257 BK258 BK265 HB hHeld ⊢
      refine pure_ (i := 1) (N := some 22) (v := ?_) (a' := ?_) #[false, true, false, false, false, false, false, false] rfl rfl (any_of HT_.out (by kernel_rfl)) (fun _ _ _ h => h) (Or.inl ⟨by rfl, ?_⟩) ?_ ?_
      rotate_left
      ·
       intro w'
       go_simp
       with_reducible rfl
      rotate_left
      ·
       simp only [Act.put, sa0, sa1, sa2, i64_w, i32_w]
       rfl
      refine pure_ (i := 2) (N := some 23) (v := ?_) (a' := ?_) #[false, true, true, false, false, false, false, false] rfl rfl (any_of HT_.out (by kernel_rfl)) (fun _ _ _ h => h) (Or.inl ⟨by rfl, ?_⟩) ?_ ?_
      rotate_left
      ·
       intro w'
       go_simp
       with_reducible rfl
      rotate_left
      ·
       simp only [Act.put, sa0, sa1, sa2, i64_w, i32_w]
       rfl
      refine pure_ (i := 4) (N := some 25) (v := ?_) (a' := ?_) #[false, true, true, false, true, false, false, false] rfl rfl (any_of HT_.out (by kernel_rfl)) (fun _ _ _ h => h) (Or.inl ⟨by rfl, ?_⟩) ?_ ?_
      rotate_left
      ·
       intro w'
       go_simp
       with_reducible rfl
      rotate_left
      ·
       simp only [Act.put, sa0, sa1, sa2, i64_w, i32_w]
       rfl
      refine pure_ (i := 5) (N := some 26) (v := ?_) (a' := ?_) #[false, true, true, false, true, true, false, false] rfl rfl (any_of HT_.out (by kernel_rfl)) (fun _ _ _ h => h) (Or.inl ⟨by rfl, ?_⟩) ?_ ?_
      rotate_left
      ·
       intro w'
       go_simp
       with_reducible rfl
      rotate_left
      ·
       simp only [Act.put, sa0, sa1, sa2, i64_w, i32_w]
       rfl
      refine take_ (i := 0) (N := some 21) (v := ?_) (a' := ?_) #[true, true, true, false, true, true, false, false] rfl rfl (take_ofW HT_.out HW_.out (by kernel_rfl)) (fun _ _ _ h => h) (Or.inl ⟨by rfl, ?_⟩) hHeld ?_ ?_
      rotate_left
      ·
       rintro w' ⟨s0, s1, s2, s3, s4, s5, s6, s7⟩
       go_simp
       with_reducible rfl
      rotate_left
      ·
       simp only [Act.put, sa0, sa1, sa2, i64_w, i32_w]
       rfl
      refine take_ (i := 3) (N := some 24) (v := ?_) (a' := ?_) #[true, true, true, true, true, true, false, false] rfl rfl (take_ofW HT_.out HW_.out (by kernel_rfl)) (fun _ _ _ h => h) (Or.inl ⟨by rfl, ?_⟩) hHeld ?_ ?_
      rotate_left
      ·
       rintro w' ⟨s0, s1, s2, s3, s4, s5, s6, s7⟩
       go_simp
       with_reducible rfl
      rotate_left
      ·
       simp only [Act.put, sa0, sa1, sa2, i64_w, i32_w]
       rfl
      refine one_ (i := 6) (N := some 27) #[true, true, true, true, true, true, true, false] rfl rfl (one_of HT_.out (by kernel_rfl)) (by decide) (fun K hK => ?_)
      refine goes_ Try.func11 (by kernel_rfl) rfl #[.agg #[.int .i64 a0_0, .int .i64 a0_1, .int .i64 a0_2, .slice A0_3 l0_3.length c0_3], .int .i64 x18_2, .int .i64 x13_1] (by rfl) rfl rfl ga ?_
      with_reducible refine (mat_Matrix_At.calls a0_0 a0_1 a0_2 _ _ l0_3 x18_2 x13_1 t266 _ ?side1 ?side2 A18.out).mono ?_
      (case side1 => repeat (first | exact (Kd.C_below HR0_3.out HB.out) | (with_reducible refine Kd.C_alloc ?_ _) | (with_reducible refine Kd.C_drewN ?_ _) | (with_reducible refine Kd.C_drew ?_)))
      (case side2 => exact HC0_3.out)
      rintro e w21 ⟨rfl, hb⟩
      refine ⟨_, rfl, ?_⟩
      refine ax5 (Kd.R_below (kr HO_266003) hb) (bb BK257 hb) (bb BK258 hb) (bb BK265 hb) (below_step bes hb) ?_
      clear HO_266003 BK257 BK258 BK265 HB
      intro HO_266003 BK257 BK258 BK265 HB
      (try clear hb)
      (try clear hb2)
      (try clear hk)
      (try clear hi)
      obtain ⟨Ao22, co22, eo22⟩ := Kd.R_slice HO_266003.out
      (first | subst eo22 | (injection eo22 with f1_ f2_ f3_; have f4_ := f1_.symm; have f5_ := f3_.symm; clear f1_ f2_ f3_; subst f4_; subst f5_))
      refine hK.out _ _ ⟨(blk_cell BK265.out 0).trans rfl, (blk_cell BK265.out 1).trans rfl, (blk_cell BK265.out 2).trans rfl, (blk_cell BK265.out 3).trans rfl, (blk_cell BK257.out 0).trans rfl, (blk_cell BK257.out 1).trans rfl, (blk_cell BK257.out 2).trans rfl, (blk_cell BK257.out 3).trans rfl⟩ (fun hHeld => ?_)
      clear hK K
      refine norm_ (a' := ?_) ?_ ?_
      rotate_left
      ·
       show Act.put _ (some 27) _ = _
       simp only [Act.put, sa0, sa1, sa2, i64_w, i32_w]
       rfl
      refine one_ (i := 7) (N := some 28) #[true, true, true, true, true, true, true, true] rfl rfl (one_of HT_.out (by kernel_rfl)) (by decide) (fun K hK => ?_)
      refine goes_ Try.func14 (by kernel_rfl) rfl #[.agg #[.int .i64 t259, .int .i64 t260, .int .i64 t261, .slice Ao22 x266003_2.length co22], .int .i64 x13_1, .int .i64 x18_2, .int .u64 t266] (by rfl) rfl rfl ga ?_
      with_reducible refine (mat_Matrix_Set.calls t259 t260 t261 (fun k_ => some k_ = (.slice Ao22 x266003_2.length co22 : Value).ownBlock) (.slice Ao22 x266003_2.length co22) x266003_2 x13_1 x18_2 t266 t267 w _ ?side1 ?side2 A19.out).mono ?_
      (case side1 => repeat (first | (with_reducible first | exact HB.out | apply below_alloc | apply pw_below_drewN | apply below_drew1 | refine below_set ?_ GE257.out | refine below_set ?_ GE258.out | refine below_set ?_ GE265.out) | exact HB.out))
      (case side2 => exact Kd.R_tight rfl HO_266003.out)
      rintro e w23 ⟨rfl, hy0, hb, hkp⟩
      refine ⟨_, rfl, ?_⟩
      refine ax5 (Kd.R_reok rfl hy0 (fun k_ e_ => HO_266003.out.1 k_ e_)) (blk_kept (kb BK257) hkp (fun hs_ => (fun e_ => (Kd.R_ne HO_266003.out BK257.out (by decide)) e_) hs_)) (blk_kept (kb BK258) hkp (fun hs_ => (fun e_ => (Kd.R_ne HO_266003.out BK258.out (by decide)) e_) hs_)) (blk_kept (kb BK265) hkp (fun hs_ => (fun e_ => (Kd.R_ne HO_266003.out BK265.out (by decide)) e_) hs_)) hb ?_
      clear HO_266003 BK257 BK258 BK265 HB
      intro HO_266003 BK257 BK258 BK265 HB
      (try clear hb)
      (try clear hkp)
      (try clear hy0)
      refine hK.out _ _ ⟨(blk_cell BK265.out 0).trans rfl, (blk_cell BK265.out 1).trans rfl, (blk_cell BK265.out 2).trans rfl, (blk_cell BK265.out 3).trans rfl, (blk_cell BK257.out 0).trans rfl, (blk_cell BK257.out 1).trans rfl, (blk_cell BK257.out 2).trans rfl, (blk_cell BK257.out 3).trans rfl⟩ (fun hHeld => ?_)
      clear hK K
      refine norm_ (a' := ?_) ?_ ?_
      rotate_left
      ·
       show Act.put _ (some 28) _ = _
       simp only [Act.put, sa0, sa1, sa2, i64_w, i32_w]
       rfl
      refine done_ (done_of HT_.out (by kernel_rfl)) ?_
      try go_wp2
      go_roundg k2
      case measure => have := HK1.out; have := HK2.out; omega
      case rel => exact ⟨(wrap64 (x18_2 + 1)), (t267), (.slice Ao22 x266003_2.length co22), (by first | rfl | (simp; done) | (simp [*]; done)), H', ⟨by have := HK1.out; have := HK2.out; omega⟩, ⟨kr HO_266003⟩, ⟨kb BK257⟩, ⟨kb BK258⟩, ⟨kb BK265⟩, ⟨bes⟩⟩
   ·
    rw [if_neg c13] at H
    have c13b0 : decide (x13_1 < t259) = false := decide_eq_false c13
    clear c13
    simp only [Option.some.injEq, Prod.mk.injEq] at H
    obtain ⟨rfl, rfl, rfl, rfl⟩ := H
    have hnb24 := NB265_257.out
    have hnc24 := NB257_265.out
    have hnb25 := NB265_258.out
    have hnc25 := NB258_265.out
    have hcz26_0 := bc BK265 0 rfl
    have hcz26_1 := bc BK265 1 rfl
    have hcz26_2 := bc BK265 2 rfl
    have hcz26_3 := bc BK265 3 rfl
    have hfz26_0 := blk_frozen BK265.out 0
    have hfz26_1 := blk_frozen BK265.out 1
    have hfz26_2 := blk_frozen BK265.out 2
    have hfz26_3 := blk_frozen BK265.out 3
    have hnb27 := NB258_257.out
    have hnc27 := NB257_258.out
    have hcz28_0 := bc BK258 0 rfl
    have hcz28_1 := bc BK258 1 rfl
    have hcz28_2 := bc BK258 2 rfl
    have hcz28_3 := bc BK258 3 rfl
    have hfz28_0 := blk_frozen BK258.out 0
    have hfz28_1 := blk_frozen BK258.out 1
    have hfz28_2 := blk_frozen BK258.out 2
    have hfz28_3 := blk_frozen BK258.out 3
    obtain ⟨Ao29, co29, eo29⟩ := Kd.R_slice HO_266003.out
    subst eo29
    go_wp2
    refine bodyPost_ret (results_cell_row rfl _ _ gb258 25 #[.int .i64 t259, .int .i64 t260, .int .i64 t261, .slice Ao29 x266003_1.length co29] (0, 0) _ rfl (by (with_reducible repeat (first | refine blk_drewN ?_ _ | refine blk_drew ?_ | refine blk_alloc ?_ _)); refine blk_put (cs := #[.int .i64 t259, .int .i64 t260, .int .i64 t261, .slice none 0 0]) ?_ 3 _ rfl; (with_reducible repeat (first | refine blk_drewN ?_ _ | refine blk_drew ?_ | refine blk_alloc ?_ _)); refine blk_put (cs := #[.int .i64 t259, .int .i64 t260, .int .i64 0, .slice none 0 0]) ?_ 2 _ rfl; (with_reducible repeat (first | refine blk_drewN ?_ _ | refine blk_drew ?_ | refine blk_alloc ?_ _)); refine blk_put (cs := #[.int .i64 t259, .int .i64 0, .int .i64 0, .slice none 0 0]) ?_ 1 _ rfl; (with_reducible repeat (first | refine blk_drewN ?_ _ | refine blk_drew ?_ | refine blk_alloc ?_ _)); refine blk_put (cs := #[.int .i64 0, .int .i64 0, .int .i64 0, .slice none 0 0]) ?_ 0 _ rfl; (with_reducible repeat (first | refine blk_drewN ?_ _ | refine blk_drew ?_ | refine blk_alloc ?_ _)); exact BK258.out) Try.underlying25 rfl (by kernel_rfl)) rfl ?_
    exact ⟨_, er, by (with_reducible repeat (first | apply Kd.R_alloc | apply Kd.R_drewN | apply Kd.R_drew)); exact Kd.R_mono (Kd.R_far (p := ⟨gb258, 3, none⟩) (Kd.R_far (p := ⟨gb258, 2, none⟩) (Kd.R_far (p := ⟨gb258, 1, none⟩) (Kd.R_far (p := ⟨gb258, 0, none⟩) (Kd.R_types HO_266003.out BK258.out (by decide)) (fun _ hk => hk.2) (.int .i64 t259)) (fun _ hk => hk.2) (.int .i64 t260)) (fun _ hk => hk.2) (.int .i64 t261)) (fun _ hk => hk.2) (.slice Ao29 x266003_1.length co29)) (fun _ hk => trivial), bes⟩

end Go.Proofs.Ytenegelkbfmjkaa.F
