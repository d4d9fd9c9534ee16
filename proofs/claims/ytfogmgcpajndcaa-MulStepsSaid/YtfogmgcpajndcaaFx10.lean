-- Written by a program of this seat's session (mkprint), out of the translation.
import Derived.Test.YtfogmgcpajndcaaShort
import Derived.Test.YtfogmgcpajndcaaFx0
import Derived.Test.YtfogmgcpajndcaaFx2
import Derived.Test.YtfogmgcpajndcaaFx7
import Derived.Test.YtfogmgcpajndcaaFx9
namespace Go.Proofs.Ytfogmgcpajndcaa.F
open Go.RowKit Go.Proofs.YtfogmgcpajndcaaW.PrintWords Go.Proofs.YtfogmgcpajndcaaW.PrintLast Go.Proofs.YtfogmgcpajndcaaW.PrintMore
attribute [local go_sem] max2_int min2_int max_two min_two max_three min_three max_four min_four   -- for this text's walks alone
set_option linter.unusedVariables false
set_option linter.unusedSimpArgs false

/-! ### mul_Gemv: function 14 -/
mutual
def mul_Gemv.j0 : Nat → List Int → Bool → Int → Int → Int → Int → List Int → Option (List Int × Int × Int)
 | 0, _, _, _, _, _, _, _ => none
 | k + 1, x2, x21, x1000, x487000, x487001, x487002, x487003 => if x21 = true then (some (([] : List Int), 4, x1000)) else (mul_Gemv.l0 k x2 ([] : List Int) x487000 0 x1000 x487000 x487001 x487002 x487003)
def mul_Gemv.l0 : Nat → List Int → List Int → Int → Int → Int → Int → Int → Int → List Int → Option (List Int × Int × Int)
 | 0, _, _, _, _, _, _, _, _, _ => none
 | k + 1, x2, x8, x23, x24, x1000, x487000, x487001, x487002, x487003 => if x24 < x23 then (mul_Gemv.l1 k x2 x8 x24 0 x23 x24 x487001 0 x1000 x487000 x487001 x487002 x487003) else (some (x8, 0, x1000))
def mul_Gemv.l1 : Nat → List Int → List Int → Int → Int → Int → Int → Int → Int → Int → Int → Int → Int → List Int → Option (List Int × Int × Int)
 | 0, _, _, _, _, _, _, _, _, _, _, _, _, _ => none
 | k + 1, x2, x8, x9, x10, x23, x24, x28, x29, x1000, x487000, x487001, x487002, x487003 => if x29 < x28 then ((mat_Matrix_At.f x487000 x487001 x487002 x487003 x9 x29).bind fun t488 => (if 0 ≤ x29 then (if x29 < (x2.length : Int) then ((soft_Calc_Mul.f k x1000 t488 (rd x2 x29)).bind fun bt490 => ((soft_Calc_Add.f k bt490.2 x10 bt490.1).bind fun bt492 => (mul_Gemv.l1 k x2 x8 x9 bt492.1 x23 x24 x28 (wrap64 (x29 + 1)) bt492.2 x487000 x487001 x487002 x487003))) else (none)) else (none))) else (if x8.length < 17592186044416 then (mul_Gemv.l0 k x2 (x8 ++ [x10]) x23 (wrap64 (x24 + 1)) x1000 x487000 x487001 x487002 x487003) else (none))
end
def mul_Gemv.f (k : Nat) (s0_0 : Int) (a1_0 : Int) (a1_1 : Int) (a1_2 : Int) (l1_3 : List Int) (l2 : List Int) : Option (List Int × Int × Int) := (mat_Matrix_Check.f k a1_0 a1_1 a1_2 l1_3).bind fun t487 => (if t487 = 0 then (mul_Gemv.j0 k l2 (a1_1 != (l2.length : Int)) s0_0 a1_0 a1_1 a1_2 l1_3) else (mul_Gemv.j0 k l2 true s0_0 a1_0 a1_1 a1_2 l1_3))
theorem mul_Gemv.mono_l : ∀ k, (∀ y0 y1 y2 y3 y4 y5 y6, LeO (mul_Gemv.j0 k y0 y1 y2 y3 y4 y5 y6) (mul_Gemv.j0 (k + 1) y0 y1 y2 y3 y4 y5 y6)) ∧ (∀ y0 y1 y2 y3 y4 y5 y6 y7 y8, LeO (mul_Gemv.l0 k y0 y1 y2 y3 y4 y5 y6 y7 y8) (mul_Gemv.l0 (k + 1) y0 y1 y2 y3 y4 y5 y6 y7 y8)) ∧ (∀ y0 y1 y2 y3 y4 y5 y6 y7 y8 y9 y10 y11 y12, LeO (mul_Gemv.l1 k y0 y1 y2 y3 y4 y5 y6 y7 y8 y9 y10 y11 y12) (mul_Gemv.l1 (k + 1) y0 y1 y2 y3 y4 y5 y6 y7 y8 y9 y10 y11 y12))
 | 0 => ⟨fun _ _ _ _ _ _ _ r h => by simp [mul_Gemv.j0] at h, fun _ _ _ _ _ _ _ _ _ r h => by simp [mul_Gemv.l0] at h, fun _ _ _ _ _ _ _ _ _ _ _ _ _ r h => by simp [mul_Gemv.l1] at h⟩
 | k + 1 => by
  obtain ⟨ih0, ih1, ih2⟩ := mul_Gemv.mono_l k
  refine ⟨?_, ?_, ?_⟩ <;> intros <;> (first | unfold mul_Gemv.j0 | unfold mul_Gemv.l0 | unfold mul_Gemv.l1) <;>
   repeat' with_reducible first | apply ih0 | apply ih1 | apply ih2 | apply mat_Matrix_Check.mono | apply soft_Calc_Add.mono | apply soft_Calc_Mul.mono | exact LeO.refl _ | exact LeO.none _ | refine LeO.ite ?_ ?_ | refine LeO.bind ?_ (fun _ => ?_)
theorem mul_Gemv.mono : ∀ a0 a1 a2 a3 a4 a5 k, LeO (mul_Gemv.f k a0 a1 a2 a3 a4 a5) (mul_Gemv.f (k + 1) a0 a1 a2 a3 a4 a5) := by
 intro a0 a1 a2 a3 a4 a5 k
 obtain ⟨ih0, ih1, ih2⟩ := mul_Gemv.mono_l k
 unfold mul_Gemv.f
 repeat' with_reducible first | apply ih0 | apply ih1 | apply ih2 | apply mat_Matrix_Check.mono | apply soft_Calc_Add.mono | apply soft_Calc_Mul.mono | exact LeO.refl _ | exact LeO.none _ | refine LeO.ite ?_ ?_ | refine LeO.bind ?_ (fun _ => ?_)
def mul_Gemv.T11 : Bool × List (List Nat × List Nat) := (true, [([], []), ([], []), ([], []), ([], []), ([], []), ([], []), ([3, 4, 5], [3, 4, 5]), ([], []), ([], []), ([7, 8], [7, 8]), ([9], [9]), ([2, 6, 10, 6], [2, 6, 10]), ([0, 1, 11, 11], [0, 1, 11]), ([12, 12, 0, 1, 2, 3, 4, 5, 6, 7, 8, 9, 10, 11, 12], [1, 12])])
def mul_Gemv.B11 : List Nat := [0, 0, 0, 0, 0, 0, 56, 0, 0, 384, 896, 2044, 4095, 8191]
theorem mul_Gemv.tab11 : rtab .any (opsOf Try.f14 11) = mul_Gemv.T11 := by kernel_rfl
theorem mul_Gemv.bits11 : waitsOk mul_Gemv.T11.2 mul_Gemv.B11 = true := by kernel_rfl
set_option maxHeartbeats 8000000 in
set_option maxRecDepth 100000 in
theorem mul_Gemv.calls (k : Nat) (g : Nat) (s0_0 : Int) (a1_0 : Int) (a1_1 : Int) (a1_2 : Int) (A1_3 : Option Addr) (c1_3 : Nat) (l1_3 : List Int) (A2 : Option Addr) (c2 : Nat) (l2 : List Int) (r1 : List Int) (r2 : Int) (r3 : Int) (w0 w : World) (hI : IsS40 w0 w g s0_0) (hB : Below w0.heap.size w0 w) (hr1_3 : Kd.C (Kd.int .u64) w A1_3 l1_3.length l1_3) (hc1_3 : l1_3.length ≤ c1_3) (hf1_3 : ∀ ad, A1_3 = some ad → 0 < l1_3.length → ad.block ≠ g) (hr2 : Kd.C (Kd.int .u64) w A2 l2.length l2) (hc2 : l2.length ≤ c2) (hf2 : ∀ ad, A2 = some ad → 0 < l2.length → ad.block ≠ g) (h : mul_Gemv.f k s0_0 a1_0 a1_1 a1_2 l1_3 l2 = some (r1, r2, r3)) :
  Calls Try.prog 14 #[.pointer (some ⟨g, 0, none⟩), .agg #[.int .i64 a1_0, .int .i64 a1_1, .int .i64 a1_2, .slice A1_3 l1_3.length c1_3], .slice A2 l2.length c2] w fun e w' => ∃ v0_ : Value, e = .returned (.tuple #[v0_, .int .i64 r2]) ∧ Kd.R (Kd.int .u64) 33 w' w.heap.size (fun _ => True) v0_ r1 ∧ IsS40 w0 w' g r3 ∧ Below w0.heap.size w0 w' ∧ KeepBut w w' g none := by
 have hu25 := Try.underlying25
 have HR1_3 := Aside0.mk hr1_3
 have HC1_3 := Aside0.mk hc1_3
 clear hr1_3 hc1_3
 have HR2 := Aside0.mk hr2
 have HC2 := Aside0.mk hc2
 clear hr2 hc2
 have HI0 := Aside0.mk hI
 have HK := Aside0.mk (KeepBut.refl w g none)
 have HL := Aside0.mk hB.size
 clear hI
 have HW0 := Aside0.mk hB.size
 have HB := Aside0.mk hB
 clear hB
 have H : ((mat_Matrix_Check.f k a1_0 a1_1 a1_2 l1_3).bind fun t487 => (if t487 = 0 then (mul_Gemv.j0 k l2 (a1_1 != (l2.length : Int)) s0_0 a1_0 a1_1 a1_2 l1_3) else (mul_Gemv.j0 k l2 true s0_0 a1_0 a1_1 a1_2 l1_3))) = some (r1, r2, r3) := h
 clear h
 have HC4 := Aside0.mk H
 clear H
 go_enter Try.func14, Try.ntmps14
 go_upto_region 1 with (first | ((with_reducible refine gate_dst (N := 4) rfl ?_); refine gbox (N := 4) (cs := #[.int .i64 a1_0, .int .i64 a1_1, .int .i64 a1_2, .slice A1_3 l1_3.length c1_3]) (t := 25) ?_; intro gb486 hg w5 hbox hb; refine ax8 (IsS40.below (ss40 HI0) hb) (KeepBut.trans (kz HK) (KeepBut.of_below hb g none) (.inl rfl)) (below_step sb40 hb) hbox ((by rw [hg]; exact (keep_size (w := w) (g := g) (row := none) (kz HK)) : w.heap.size ≤ gb486)) ((Nat.le_trans HW0.out (by rw [hg]; exact (keep_size (w := w) (g := g) (row := none) (kz HK)) : w.heap.size ≤ gb486) : w0.heap.size ≤ gb486)) ((by rw [hg]; exact Nat.ne_of_lt (IsS40.lt (show IsS40 w0 _ g s0_0 from ss40 HI0)) : g ≠ gb486)) ((by rw [hg]; exact Nat.ne_of_gt (IsS40.lt (show IsS40 w0 _ g s0_0 from ss40 HI0)) : gb486 ≠ g)) ?_; clear HI0; clear HK; clear HB; intro HI0 HK HB BK486 GW486 GE486 NB0_486 NB486_0; clear hb hbox hg))
 (try simp only [Act.put, sa0, sa1, sa2])
 go_cut [21] (fun v21 wc => ∃ (kq : Nat) (x21_3 : Bool), v21 = .bool x21_3 ∧ Aside0 (mul_Gemv.j0 kq l2 x21_3 s0_0 a1_0 a1_1 a1_2 l1_3 = some (r1, r2, r3)) ∧ Aside0 (kq ≤ k) ∧ Aside0 (wc.heap[gb486]? = some (.cells #[.int .i64 a1_0, .int .i64 a1_1, .int .i64 a1_2, (.slice A1_3 l1_3.length c1_3)] 25 (0, 0))) ∧ Aside0 (IsS40 w0 wc g s0_0) ∧ Aside0 (KeepBut w wc g none) ∧ Aside0 (Below w0.heap.size w0 wc))
 case first =>
  have H := HC4.out
  clear HC4
  obtain ⟨t487, A60, H⟩ := Option.bind_eq_some_iff.mp H
  (try dsimp -simprocs only at H)
  have A6 := Aside0.mk A60
  clear A60
  by_cases c7 : t487 = 0
  ·
   rw [if_pos c7] at H
   have c7b0 : (t487 == 0) = true := beq_iff_eq.mpr c7
   have c7b1 : (t487 != 0) = false := bne_eq_false_iff_eq.mpr c7
   clear c7
   (first | rw [c7b0] | (simp only [i64_w, i32_w]; rw [c7b0]) | skip)
   have H' := Aside0.mk H
   clear H
   have hnb8 := NB486_0.out
   have hnc8 := NB0_486.out
   have hcz9_0 := bc BK486 0 rfl
   have hcz9_1 := bc BK486 1 rfl
   have hcz9_2 := bc BK486 2 rfl
   have hcz9_3 := bc BK486 3 rfl
   have hfz9_0 := blk_frozen BK486.out 0
   have hfz9_1 := blk_frozen BK486.out 1
   have hfz9_2 := blk_frozen BK486.out 2
   have hfz9_3 := blk_frozen BK486.out 3
   go_wp2_with (first | ((with_reducible refine gate_callee (f := 25) rfl ?_); refine goesL_ (some 13) rfl rfl Try.func25 (by kernel_rfl) rfl #[.agg #[.int .i64 a1_0, .int .i64 a1_1, .int .i64 a1_2, .slice A1_3 l1_3.length c1_3]] rfl ga ?_; (with_reducible refine (mat_Matrix_Check.calls k a1_0 a1_1 a1_2 _ _ l1_3 t487 _ ?side1 ?side2 A6.out).mono ?_); (case side1 => exact Kd.C_keep 0 HR1_3.out (ky HK) hf1_3); (case side2 => exact HC1_3.out); rintro e w10 ⟨rfl, hb⟩; refine ⟨_, rfl, ?_⟩; refine ax4 (IsS40.below (ss40 HI0) hb) (bb BK486 hb) (KeepBut.trans (ky HK) (KeepBut.of_below hb g none) (.inl rfl)) (below_step sb40 hb) ?_; clear HI0; clear BK486; clear HK; clear HB; intro HI0 BK486 HK HB; (try clear hb); have hcz11_0 := bc BK486 0 rfl; have hcz11_1 := bc BK486 1 rfl; have hcz11_2 := bc BK486 2 rfl; have hcz11_3 := bc BK486 3 rfl; have hfz11_0 := blk_frozen BK486.out 0; have hfz11_1 := blk_frozen BK486.out 1; have hfz11_2 := blk_frozen BK486.out 2; have hfz11_3 := blk_frozen BK486.out 3))
   go_meet
   case rel => exact ⟨_, ((a1_1 != (l2.length : Int))), (by first | rfl | (simp; done) | (simp [*]; done)), H', ⟨by first | omega | exact Nat.le_refl _⟩, ⟨kb BK486⟩, ⟨ss40 HI0⟩, ⟨ky HK⟩, ⟨sb40⟩⟩
  ·
   rw [if_neg c7] at H
   have c7b0 : (t487 == 0) = false := beq_eq_false_iff_ne.mpr c7
   have c7b1 : (t487 != 0) = true := bne_iff_ne.mpr c7
   (first | rw [c7b0] | (simp only [i64_w, i32_w]; rw [c7b0]) | skip)
   have H' := Aside0.mk H
   clear H
   have hnb12 := NB486_0.out
   have hnc12 := NB0_486.out
   have hcz13_0 := bc BK486 0 rfl
   have hcz13_1 := bc BK486 1 rfl
   have hcz13_2 := bc BK486 2 rfl
   have hcz13_3 := bc BK486 3 rfl
   have hfz13_0 := blk_frozen BK486.out 0
   have hfz13_1 := blk_frozen BK486.out 1
   have hfz13_2 := blk_frozen BK486.out 2
   have hfz13_3 := blk_frozen BK486.out 3
   go_wp2_with (first | ((with_reducible refine gate_callee (f := 25) rfl ?_); refine goesL_ (some 13) rfl rfl Try.func25 (by kernel_rfl) rfl #[.agg #[.int .i64 a1_0, .int .i64 a1_1, .int .i64 a1_2, .slice A1_3 l1_3.length c1_3]] rfl ga ?_; (with_reducible refine (mat_Matrix_Check.calls k a1_0 a1_1 a1_2 _ _ l1_3 t487 _ ?side1 ?side2 A6.out).mono ?_); (case side1 => exact Kd.C_keep 0 HR1_3.out (ky HK) hf1_3); (case side2 => exact HC1_3.out); rintro e w14 ⟨rfl, hb⟩; refine ⟨_, rfl, ?_⟩; refine ax4 (IsS40.below (ss40 HI0) hb) (bb BK486 hb) (KeepBut.trans (ky HK) (KeepBut.of_below hb g none) (.inl rfl)) (below_step sb40 hb) ?_; clear HI0; clear BK486; clear HK; clear HB; intro HI0 BK486 HK HB; (try clear hb)))
   go_meet
   case rel => exact ⟨_, (true), (by first | rfl | (simp; done) | (simp [*]; done)), H', ⟨by first | omega | exact Nat.le_refl _⟩, ⟨kb BK486⟩, ⟨ss40 HI0⟩, ⟨ky HK⟩, ⟨sb40⟩⟩
 case rest =>
  clear HC4
  try clear c1
  try clear c2
  try clear p2
  try clear c7
  try clear c7b0
  try clear c7b1
  try clear c8
  try clear c12
  try clear c14
  try clear hcz11_0
  try clear hcz11_1
  try clear hcz11_2
  try clear hcz11_3
  try clear hcz13_0
  try clear hcz13_1
  try clear hcz13_2
  try clear hcz13_3
  try clear hcz9_0
  try clear hcz9_1
  try clear hcz9_2
  try clear hcz9_3
  try clear hfz11_0
  try clear hfz11_1
  try clear hfz11_2
  try clear hfz11_3
  try clear hfz13_0
  try clear hfz13_1
  try clear hfz13_2
  try clear hfz13_3
  try clear hfz9_0
  try clear hfz9_1
  try clear hfz9_2
  try clear hfz9_3
  obtain ⟨kq, x21_3, rfl, HA, HJ3, BK486, HI0, HK, HB⟩ := hcut
  cases kq with
  | zero => exact absurd HA.out (by simp [mul_Gemv.j0])
  | succ kj3 =>
   have H := HA.out
   clear HA
   simp only [mul_Gemv.j0] at H
   by_cases c15 : x21_3 = true
   ·
    subst c15
    rw [if_pos rfl] at H
    simp only [Option.some.injEq, Prod.mk.injEq] at H
    obtain ⟨rfl, rfl, rfl⟩ := H
    go_wp2
    go_ret2
    exact ⟨_, er, by first | exact Kd.R_nil _ _ _ _ _ | exact Kd.N_nil _ _ _ _ _ | exact Kd.V_nil _ _ _ _ _ | exact Kd.Q_nil _ _ _ _ _ | exact Kd.S_nil _ _ _ _ _, by repeat (first | (with_reducible first | exact HI0.out | apply IsS40.alloc | apply IsS40.drewN | apply IsS40.drew | apply IsS40.set_0 | refine IsS40.far ?_ NB0_486.out _) | exact HI0.out), by repeat (first | (with_reducible first | exact HB.out | apply below_alloc | apply pw_below_drewN | apply below_drew1 | refine below_set ?_ (IsS40.ge HI0.out) | refine below_set ?_ GE486.out) | exact HB.out), by repeat (first | (with_reducible first | exact HK.out | apply KeepBut.set_ | apply keep_drewN | apply keep_drew | apply keep_alloc | refine keep_far ?_ GW486.out _) | exact HK.out)⟩
   ·
    replace c15 := Bool.eq_false_iff.mpr c15
    subst c15
    rw [if_neg (show ¬ (false = true) by decide)] at H
    have H' := Aside0.mk H
    clear H
    have hnb16 := NB486_0.out
    have hnc16 := NB0_486.out
    have hcz17_0 := bc BK486 0 rfl
    have hcz17_1 := bc BK486 1 rfl
    have hcz17_2 := bc BK486 2 rfl
    have hcz17_3 := bc BK486 3 rfl
    have hfz17_0 := blk_frozen BK486.out 0
    have hfz17_1 := blk_frozen BK486.out 1
    have hfz17_2 := blk_frozen BK486.out 2
    have hfz17_3 := blk_frozen BK486.out 3
    go_wp2
    go_loopg [8, 24] kj3 (fun kq v8 v24 w' => ∃ (x8_2 : List Int) (x24_2 : Int) (x1000_2 : Int), v24 = .int .i64 x24_2 ∧ Aside0 (mul_Gemv.l0 kq l2 x8_2 a1_0 x24_2 x1000_2 a1_0 a1_1 a1_2 l1_3 = some (r1, r2, r3)) ∧ Aside0 (kq ≤ kj3) ∧ Aside0 (Kd.R (Kd.int .u64) 33 w' w.heap.size (fun _ => True) v8 x8_2) ∧ Aside0 (w'.heap[gb486]? = some (.cells #[.int .i64 a1_0, .int .i64 a1_1, .int .i64 a1_2, (.slice A1_3 l1_3.length c1_3)] 25 (0, 0))) ∧ Aside0 (IsS40 w0 w' g x1000_2) ∧ Aside0 (KeepBut w w' g none) ∧ Aside0 (Below w0.heap.size w0 w'))
    case atStart => exact ⟨(([] : List Int)), (0), (s0_0), (by first | rfl | (simp; done) | (simp [*]; done)), H', ⟨Nat.le_refl _⟩, ⟨by first | exact Kd.R_nil _ _ _ _ _ | exact Kd.N_nil _ _ _ _ _ | exact Kd.V_nil _ _ _ _ _ | exact Kd.Q_nil _ _ _ _ _ | exact Kd.S_nil _ _ _ _ _⟩, ⟨kb BK486⟩, ⟨ss40 HI0⟩, ⟨ky HK⟩, ⟨sb40⟩⟩
    case round =>
     clear H'
     try clear c1
     try clear c2
     try clear p2
     try clear c7
     try clear c7b0
     try clear c7b1
     try clear c8
     try clear c12
     try clear c14
     try clear c15
     try clear c16
     try clear hcz11_0
     try clear hcz11_1
     try clear hcz11_2
     try clear hcz11_3
     try clear hcz13_0
     try clear hcz13_1
     try clear hcz13_2
     try clear hcz13_3
     try clear hcz17_0
     try clear hcz17_1
     try clear hcz17_2
     try clear hcz17_3
     try clear hcz9_0
     try clear hcz9_1
     try clear hcz9_2
     try clear hcz9_3
     try clear hfz11_0
     try clear hfz11_1
     try clear hfz11_2
     try clear hfz11_3
     try clear hfz13_0
     try clear hfz13_1
     try clear hfz13_2
     try clear hfz13_3
     try clear hfz17_0
     try clear hfz17_1
     try clear hfz17_2
     try clear hfz17_3
     try clear hfz9_0
     try clear hfz9_1
     try clear hfz9_2
     try clear hfz9_3
     try clear p2
     obtain ⟨x8_2, x24_2, x1000_2, rfl, HA, HK2, HO_8, BK486, HI0, HK, HB⟩ := hrel
     cases gk with
     | zero => exact absurd HA.out (by simp [mul_Gemv.l0])
     | succ k2 =>
      have H := HA.out
      clear HA
      simp only [mul_Gemv.l0] at H
      by_cases c18 : x24_2 < a1_0
      rotate_left
      ·
       rw [if_neg c18] at H
       have c18b0 : decide (x24_2 < a1_0) = false := decide_eq_false c18
       clear c18
       simp only [Option.some.injEq, Prod.mk.injEq] at H
       obtain ⟨rfl, rfl, rfl⟩ := H
       go_wp2
       go_ret2
       exact ⟨_, er, kr HO_8, by repeat (first | (with_reducible first | exact HI0.out | apply IsS40.alloc | apply IsS40.drewN | apply IsS40.drew | apply IsS40.set_0 | refine IsS40.far ?_ NB0_486.out _) | exact HI0.out), by repeat (first | (with_reducible first | exact HB.out | apply below_alloc | apply pw_below_drewN | apply below_drew1 | refine below_set ?_ (IsS40.ge HI0.out) | refine below_set ?_ GE486.out) | exact HB.out), by repeat (first | (with_reducible first | exact HK.out | apply KeepBut.set_ | apply keep_drewN | apply keep_drew | apply keep_alloc | refine keep_far ?_ GW486.out _) | exact HK.out)⟩

      rw [if_pos c18] at H
      have c18b0 : decide (x24_2 < a1_0) = true := decide_eq_true c18
      clear c18
      have H' := Aside0.mk H
      clear H
      have hnb19 := NB486_0.out
      have hnc19 := NB0_486.out
      have hcz20_0 := bc BK486 0 rfl
      have hcz20_1 := bc BK486 1 rfl
      have hcz20_2 := bc BK486 2 rfl
      have hcz20_3 := bc BK486 3 rfl
      have hfz20_0 := blk_frozen BK486.out 0
      have hfz20_1 := blk_frozen BK486.out 1
      have hfz20_2 := blk_frozen BK486.out 2
      have hfz20_3 := blk_frozen BK486.out 3
      go_wp2
      go_loopg [10, 29] k2 (fun kq v10 v29 w' => ∃ (x10_3 : Int) (x29_3 : Int) (x1000_3 : Int), v10 = .int .u64 x10_3 ∧ v29 = .int .i64 x29_3 ∧ Aside0 (mul_Gemv.l1 kq l2 x8_2 x24_2 x10_3 a1_0 x24_2 a1_1 x29_3 x1000_3 a1_0 a1_1 a1_2 l1_3 = some (r1, r2, r3)) ∧ Aside0 (kq ≤ k2) ∧ Aside0 (Kd.R (Kd.int .u64) 33 w' w.heap.size (fun _ => True) u8 x8_2) ∧ Aside0 (w'.heap[gb486]? = some (.cells #[.int .i64 a1_0, .int .i64 a1_1, .int .i64 a1_2, (.slice A1_3 l1_3.length c1_3)] 25 (0, 0))) ∧ Aside0 (IsS40 w0 w' g x1000_3) ∧ Aside0 (KeepBut w w' g none) ∧ Aside0 (Below w0.heap.size w0 w'))
      case atStart => exact ⟨(0), (0), (x1000_2), (by first | rfl | (simp; done) | (simp [*]; done)), (by first | rfl | (simp; done) | (simp [*]; done)), H', ⟨Nat.le_refl _⟩, ⟨kr HO_8⟩, ⟨kb BK486⟩, ⟨ss40 HI0⟩, ⟨ky HK⟩, ⟨sb40⟩⟩
      case round =>
       clear H'
       try clear c1
       try clear c2
       try clear p2
       try clear c7
       try clear c7b0
       try clear c7b1
       try clear c8
       try clear c12
       try clear c14
       try clear c15
       try clear c16
       try clear c18
       try clear c18b0
       try clear c19
       try clear hcz11_0
       try clear hcz11_1
       try clear hcz11_2
       try clear hcz11_3
       try clear hcz13_0
       try clear hcz13_1
       try clear hcz13_2
       try clear hcz13_3
       try clear hcz17_0
       try clear hcz17_1
       try clear hcz17_2
       try clear hcz17_3
       try clear hcz20_0
       try clear hcz20_1
       try clear hcz20_2
       try clear hcz20_3
       try clear hcz9_0
       try clear hcz9_1
       try clear hcz9_2
       try clear hcz9_3
       try clear hfz11_0
       try clear hfz11_1
       try clear hfz11_2
       try clear hfz11_3
       try clear hfz13_0
       try clear hfz13_1
       try clear hfz13_2
       try clear hfz13_3
       try clear hfz17_0
       try clear hfz17_1
       try clear hfz17_2
       try clear hfz17_3
       try clear hfz20_0
       try clear hfz20_1
       try clear hfz20_2
       try clear hfz20_3
       try clear hfz9_0
       try clear hfz9_1
       try clear hfz9_2
       try clear hfz9_3
       try clear p2
       obtain ⟨x10_3, x29_3, x1000_3, rfl, rfl, HA, HK3, HO_8, BK486, HI0, HK, HB⟩ := hrel
       cases gk with
       | zero => exact absurd HA.out (by simp [mul_Gemv.l1])
       | succ k3 =>
        have H := HA.out
        clear HA
        simp only [mul_Gemv.l1] at H
        by_cases c21 : x29_3 < a1_1
        ·
         rw [if_pos c21] at H
         have c21b0 : decide (x29_3 < a1_1) = true := decide_eq_true c21
         clear c21
         obtain ⟨t488, A220, H⟩ := Option.bind_eq_some_iff.mp H
         (try dsimp -simprocs only at H)
         have A22 := Aside0.mk A220
         clear A220
         by_cases c23 : 0 ≤ x29_3
         rotate_left
         ·
          rw [if_neg c23] at H
          exact absurd H (by simp)
         rw [if_pos c23] at H
         have c23b0 : decide (0 ≤ x29_3) = true := decide_eq_true c23
         clear c23
         by_cases c24 : x29_3 < (l2.length : Int)
         rotate_left
         ·
          rw [if_neg c24] at H
          exact absurd H (by simp)
         rw [if_pos c24] at H
         have c24b0 : decide (x29_3 < (l2.length : Int)) = true := decide_eq_true c24
         clear c24
         obtain ⟨⟨t490, t491⟩, A250, H⟩ := Option.bind_eq_some_iff.mp H
         (try dsimp -simprocs only at H)
         have A25 := Aside0.mk A250
         clear A250
         obtain ⟨⟨t492, t493⟩, A260, H⟩ := Option.bind_eq_some_iff.mp H
         (try dsimp -simprocs only at H)
         have A26 := Aside0.mk A260
         clear A260
         have H' := Aside0.mk H
         clear H
         try go_wp2
         refine ax5 (Kd.R_drew HO_8.out) (blk_drew BK486.out) (IsS40.drew HI0.out) (keep_drew HK.out) (below_drew1 HB.out) ?_
         clear HO_8 BK486 HI0 HK HB
         intro HO_8 BK486 HI0 HK HB
         have p489 : 0 ≤ (x29_3 : Int) := of_decide_eq_true (by first | (with_reducible assumption) | assumption)
         have q489 : x29_3 < (l2.length : Int) := of_decide_eq_true (by first | (with_reducible assumption) | assumption)
         obtain ⟨ad489, e489, hx489_0⟩ := Kd.at_int HR2.out x29_3 p489 q489
         have hw489_0 := hx489_0
         cases e489
         have hne489_0 := (show ((ad489.add (x29_3).toNat) : Addr).block ≠ g from by first | (rw [add_block]; exact hf2 ad489 rfl (by omega)) | (show (Addr.add _ _).block ≠ _; rw [add_block]; exact hf2 ad489 rfl (by omega)) | exact hf2 ad489 rfl (by omega))
         replace hx489_0 := keep_cell HK.out hx489_0 (by first | (rw [add_block]; exact hf2 _ rfl (by omega)) | exact hf2 _ rfl (by omega) | exact hf2 ad489 rfl (by omega))
         replace p489 := eq_true p489
         replace q489 := eq_true q489
         refine start_ (n := 14) (S := fun w' => w'.cell? ⟨gb486, 0, none⟩ = some (.int .i64 a1_0) ∧ w'.cell? ⟨gb486, 1, none⟩ = some (.int .i64 a1_1) ∧ w'.cell? ⟨gb486, 2, none⟩ = some (.int .i64 a1_2) ∧ w'.cell? ⟨gb486, 3, none⟩ = some (.slice A1_3 l1_3.length c1_3) ∧ w'.cell? (ad489.add (x29_3).toNat) = some (.int .u64 (rd l2 x29_3))) (ds := []) #[false, false, false, false, false, false, false, false, false, false, false, false, false, false] (by kernel_rfl) rfl rfl ⟨bk BK486 0, bk BK486 1, bk BK486 2, bk BK486 3, (keep_cell HK.out hw489_0 hne489_0)⟩ (fun hHeld => ?_); refine with_tabW mul_Gemv.tab11 mul_Gemv.bits11 (fun HT_ HW_ => ?_)
         generalize wr.drew = w27 at HO_8 BK486 HI0 HK HB hx489_0 hHeld ⊢
         refine pu 0 32 (lm 14 1) HT_ ?_
         refine pu 1 33 (lm 14 3) HT_ ?_
         refine pu 2 34 (lm 14 7) HT_ ?_
         refine pu 4 36 (lm 14 23) HT_ ?_
         refine pu 5 37 (lm 14 55) HT_ ?_
         refine pu 7 39 (lm 14 183) HT_ ?_
         refine pu 8 40 (lm 14 439) HT_ ?_
         refine pu 9 41 (lm 14 951) HT_ ?_
         refine ta 3 35 (lm 14 959) HT_ HW_ hHeld ?_
         refine ta 10 42 (lm 14 1983) HT_ HW_ hHeld ?_
         refine on 6 (some 38) (lm 14 2047) HT_ (fun K hK => ?_)
         refine goes_ Try.func17 (by kernel_rfl) rfl #[.agg #[.int .i64 a1_0, .int .i64 a1_1, .int .i64 a1_2, .slice A1_3 l1_3.length c1_3], .int .i64 x24_2, .int .i64 x29_3] (by rfl) rfl rfl ga ?_
         with_reducible refine (mat_Matrix_At.calls a1_0 a1_1 a1_2 _ _ l1_3 x24_2 x29_3 t488 _ ?side1 ?side2 A22.out).mono ?_
         (case side1 => exact Kd.C_keep 0 HR1_3.out (ky HK) hf1_3)
         (case side2 => exact HC1_3.out)
         rintro e w28 ⟨rfl, hb⟩
         refine ⟨_, rfl, ?_⟩
         refine ax5 (Kd.R_below (kr HO_8) hb) (bb BK486 hb) (IsS40.below (ss40 HI0) hb) (KeepBut.trans (ky HK) (KeepBut.of_below hb g none) (.inl rfl)) (below_step sb40 hb) ?_
         clear HO_8 BK486 HI0 HK HB
         intro HO_8 BK486 HI0 HK HB
         (try clear hb)
         (try clear hb2)
         (try clear hk)
         (try clear hi)
         refine hK.out _ _ ⟨bk BK486 0, bk BK486 1, bk BK486 2, bk BK486 3, (keep_cell HK.out hw489_0 hne489_0)⟩ (fun hHeld => ?_)
         clear hK K
         refine no 38 ?_
         refine on 11 (some 43) (lm 14 4095) HT_ (fun K hK => ?_)
         refine goes_ Try.func18 (by kernel_rfl) rfl #[.pointer (some ⟨g, 0, none⟩), .int .u64 t488, .int .u64 (rd l2 x29_3)] (by rfl) rfl rfl ga ?_
         with_reducible refine (soft_Calc_Mul.calls k3 g x1000_3 t488 (rd l2 x29_3) t490 t491 w0 _ ?side1 ?side2 A25.out).mono ?_
         (case side1 => repeat (first | (with_reducible first | exact HI0.out | apply IsS40.alloc | apply IsS40.drewN | apply IsS40.drew | apply IsS40.set_0 | refine IsS40.far ?_ NB0_486.out _) | exact HI0.out))
         (case side2 => repeat (first | (with_reducible first | exact HB.out | apply below_alloc | apply pw_below_drewN | apply below_drew1 | refine below_set ?_ (IsS40.ge HI0.out) | refine below_set ?_ GE486.out) | exact HB.out))
         rintro e w29 ⟨rfl, hi, hb, hk⟩
         refine ⟨_, rfl, ?_⟩
         refine ax5 (Kd.R_mono (Kd.R_keep (IsS40.apart (show IsS40 w0 _ g x1000_3 from ss40 HI0) (kr HO_8) (by decide)) hk (fun _ h => h.2)) (fun _ h => h.1)) (KeepBut.blk hk (g' := gb486) (o := .cells #[.int .i64 a1_0, .int .i64 a1_1, .int .i64 a1_2, .slice A1_3 l1_3.length c1_3] 25 (0, 0)) (kb BK486) NB486_0.out (by simp)) (KeepBut.trans (ky HK) hk (.inl rfl)) hb hi ?_
         clear HO_8 BK486 HK HB HI0
         intro HO_8 BK486 HK HB HI0
         (try clear hb)
         (try clear hb2)
         (try clear hk)
         (try clear hi)
         refine hK.out _ _ ⟨bk BK486 0, bk BK486 1, bk BK486 2, bk BK486 3, (keep_cell HK.out hw489_0 hne489_0)⟩ (fun hHeld => ?_)
         clear hK K
         refine no 43 ?_
         refine on 12 (some 44) (lm 14 8191) HT_ (fun K hK => ?_)
         refine goes_ Try.func19 (by kernel_rfl) rfl #[.pointer (some ⟨g, 0, none⟩), .int .u64 x10_3, .int .u64 t490] (by rfl) rfl rfl ga ?_
         with_reducible refine (soft_Calc_Add.calls k3 g t491 x10_3 t490 t492 t493 w0 _ ?side1 ?side2 A26.out).mono ?_
         (case side1 => repeat (first | (with_reducible first | exact HI0.out | apply IsS40.alloc | apply IsS40.drewN | apply IsS40.drew | apply IsS40.set_0 | refine IsS40.far ?_ NB0_486.out _) | exact HI0.out))
         (case side2 => repeat (first | (with_reducible first | exact HB.out | apply below_alloc | apply pw_below_drewN | apply below_drew1 | refine below_set ?_ (IsS40.ge HI0.out) | refine below_set ?_ GE486.out) | exact HB.out))
         rintro e w30 ⟨rfl, hi, hb, hk⟩
         refine ⟨_, rfl, ?_⟩
         refine ax5 (Kd.R_mono (Kd.R_keep (IsS40.apart (show IsS40 w0 _ g t491 from ss40 HI0) (kr HO_8) (by decide)) hk (fun _ h => h.2)) (fun _ h => h.1)) (KeepBut.blk hk (g' := gb486) (o := .cells #[.int .i64 a1_0, .int .i64 a1_1, .int .i64 a1_2, .slice A1_3 l1_3.length c1_3] 25 (0, 0)) (kb BK486) NB486_0.out (by simp)) (KeepBut.trans (ky HK) hk (.inl rfl)) hb hi ?_
         clear HO_8 BK486 HK HB HI0
         intro HO_8 BK486 HK HB HI0
         (try clear hb)
         (try clear hb2)
         (try clear hk)
         (try clear hi)
         refine hK.out _ _ ⟨bk BK486 0, bk BK486 1, bk BK486 2, bk BK486 3, (keep_cell HK.out hw489_0 hne489_0)⟩ (fun hHeld => ?_)
         clear hK K
         refine no 44 ?_
         refine pu 13 10 (lm 14 16383) HT_ ?_
         refine done_ (done_of HT_.out (by kernel_rfl)) ?_
         try go_wp2
         go_roundg k3
         case measure => have := HJ3.out; have := HK2.out; have := HK3.out; omega
         case rel => exact ⟨(t492), (wrap64 (x29_3 + 1)), (t493), (by first | rfl | (simp; done) | (simp [*]; done)), (by first | rfl | (simp; done) | (simp [*]; done)), H', ⟨by have := HJ3.out; have := HK2.out; have := HK3.out; omega⟩, ⟨kr HO_8⟩, ⟨kb BK486⟩, ⟨ss40 HI0⟩, ⟨ky HK⟩, ⟨sb40⟩⟩
        ·
         rw [if_neg c21] at H
         have c21b0 : decide (x29_3 < a1_1) = false := decide_eq_false c21
         clear c21
         by_cases c31 : x8_2.length < 17592186044416
         rotate_left
         ·
          rw [if_neg c31] at H
          exact absurd H (by simp)
         rw [if_pos c31] at H
         have LMc31 := Aside0.mk c31
         clear c31
         obtain ⟨y494, hy494⟩ : ∃ y_ : List Int, y_ = (x8_2 ++ [x10_3]) := ⟨_, rfl⟩
         replace H : (mul_Gemv.l0 k3 l2 y494 a1_0 (wrap64 (x24_2 + 1)) x1000_3 a1_0 a1_1 a1_2 l1_3) = some (r1, r2, r3) := by first | (rw [hy494]; with_reducible exact H) | (have H2_ := (Option.bind_some _ _).symm.trans H; rw [hy494]; with_reducible exact H2_) | (have H2_ := (Option.bind_some _ _).symm.trans H; with_reducible exact H2_) | with_reducible exact H | (rw [hy494]; exact H) | exact H
         have Ny494 := Aside0.mk hy494
         clear hy494
         have H' := Aside0.mk H
         clear H
         go_wp2_with (first | ((with_reducible refine gate_builtin (b := .append) (xs := #[.tmp 46, .tmp 48]) rfl ?_); at_builtin; refine Kd.R_append (Kd.int .u64) w.heap.size rfl (.tmp 46) (.tmp 48) 22 33 (.int .u64 0) 8 rfl Try.underlying22 info33 rfl (by decide) (by omega) u8 x8_2 x10_3 [.int .u64 x10_3] (fun _ => True) (fun _ => False) rfl rfl ?aP (fun _ hk => hk.elim) ?aF ?aO (Below.refl _ _) ?aS ?aL ?_; (case aP => exact rfl); (case aF => exact (fun _ _ => trivial)); (case aO => exact (kr HO_8)); (case aS => exact (keep_size (w := w) (g := g) (row := none) (ky HK))); (case aL => have := LMc31.out; omega); intro v495 w32 ho hb hg hat; rw [← Ny494.out] at ho; refine ax5 (blk_grown (g := gb486) (o := .cells #[.int .i64 a1_0, .int .i64 a1_1, .int .i64 a1_2, .slice A1_3 l1_3.length c1_3] 25 (0, 0)) (kb BK486) hg (Kd.R_ne HO_8.out BK486.out (by decide))) (IsS40.grown (ss40 HI0) hg (IsS40.own_ne HI0.out HO_8.out (by decide))) (below_weaken sb40 HL.out hb) (KeepBut.trans (ky HK) (KeepBut.of_grown hg g) (Kd.R_base2 HO_8.out)) ho ?_; clear BK486; clear HI0; clear HB; clear HK; clear HO_8; intro BK486 HI0 HB HK HO496; clear ho hb hg hat))
         go_roundg k3
         case measure => have := HJ3.out; have := HK2.out; have := HK3.out; omega
         case rel => exact ⟨(y494), (wrap64 (x24_2 + 1)), (x1000_3), (by first | rfl | (simp; done) | (simp [*]; done)), H', ⟨by have := HJ3.out; have := HK2.out; have := HK3.out; omega⟩, ⟨kr HO496⟩, ⟨kb BK486⟩, ⟨ss40 HI0⟩, ⟨ky HK⟩, ⟨sb40⟩⟩
/-! ### mat_Matrix_Clone: function 26 -/
mutual
def mat_Matrix_Clone.l0 : Nat → Int → Int → Int → Int → Int → List Int → Int → Int → Int → List Int → Option (Int × Int × Int × List Int)
 | 0, _, _, _, _, _, _, _, _, _, _ => none
 | k + 1, x12, x13, x507000, x507001, x507002, x507003, x515000, x515001, x515002, x515003 => if x13 < x12 then (mat_Matrix_Clone.l1 k x13 x12 x13 x515001 0 x507000 x507001 x507002 x507003 x515000 x515001 x515002 x515003) else (some (x515000, x515001, x515002, x515003))
def mat_Matrix_Clone.l1 : Nat → Int → Int → Int → Int → Int → Int → Int → Int → List Int → Int → Int → Int → List Int → Option (Int × Int × Int × List Int)
 | 0, _, _, _, _, _, _, _, _, _, _, _, _, _ => none
 | k + 1, x4, x12, x13, x17, x18, x507000, x507001, x507002, x507003, x515000, x515001, x515002, x515003 => if x18 < x17 then ((mat_Matrix_At.f x507000 x507001 x507002 x507003 x4 x18).bind fun t515 => ((mat_Matrix_Set.f x515000 x515001 x515002 x515003 x4 x18 t515).bind fun t516 => (mat_Matrix_Clone.l1 k x4 x12 x13 x17 (wrap64 (x18 + 1)) x507000 x507001 x507002 x507003 x515000 x515001 x515002 t516))) else (mat_Matrix_Clone.l0 k x12 (wrap64 (x13 + 1)) x507000 x507001 x507002 x507003 x515000 x515001 x515002 x515003)
end
def mat_Matrix_Clone.f (k : Nat) (a0_0 : Int) (a0_1 : Int) (a0_2 : Int) (l0_3 : List Int) : Option (Int × Int × Int × List Int) := (mat_New.f a0_0 a0_1).bind fun bt508 => (mat_Matrix_Clone.l0 k bt508.1 0 a0_0 a0_1 a0_2 l0_3 bt508.1 bt508.2.1 bt508.2.2.1 bt508.2.2.2)
theorem mat_Matrix_Clone.mono_l : ∀ k, (∀ y0 y1 y2 y3 y4 y5 y6 y7 y8 y9, LeO (mat_Matrix_Clone.l0 k y0 y1 y2 y3 y4 y5 y6 y7 y8 y9) (mat_Matrix_Clone.l0 (k + 1) y0 y1 y2 y3 y4 y5 y6 y7 y8 y9)) ∧ (∀ y0 y1 y2 y3 y4 y5 y6 y7 y8 y9 y10 y11 y12, LeO (mat_Matrix_Clone.l1 k y0 y1 y2 y3 y4 y5 y6 y7 y8 y9 y10 y11 y12) (mat_Matrix_Clone.l1 (k + 1) y0 y1 y2 y3 y4 y5 y6 y7 y8 y9 y10 y11 y12))
 | 0 => ⟨fun _ _ _ _ _ _ _ _ _ _ r h => by simp [mat_Matrix_Clone.l0] at h, fun _ _ _ _ _ _ _ _ _ _ _ _ _ r h => by simp [mat_Matrix_Clone.l1] at h⟩
 | k + 1 => by
  obtain ⟨ih0, ih1⟩ := mat_Matrix_Clone.mono_l k
  refine ⟨?_, ?_⟩ <;> intros <;> (first | unfold mat_Matrix_Clone.l0 | unfold mat_Matrix_Clone.l1) <;>
   repeat' with_reducible first | apply ih0 | apply ih1 | exact LeO.refl _ | exact LeO.none _ | refine LeO.ite ?_ ?_ | refine LeO.bind ?_ (fun _ => ?_)
theorem mat_Matrix_Clone.mono : ∀ a0 a1 a2 a3 k, LeO (mat_Matrix_Clone.f k a0 a1 a2 a3) (mat_Matrix_Clone.f (k + 1) a0 a1 a2 a3) := by
 intro a0 a1 a2 a3 k
 obtain ⟨ih0, ih1⟩ := mat_Matrix_Clone.mono_l k
 unfold mat_Matrix_Clone.f
 repeat' with_reducible first | apply ih0 | apply ih1 | exact LeO.refl _ | exact LeO.none _ | refine LeO.ite ?_ ?_ | refine LeO.bind ?_ (fun _ => ?_)
def mat_Matrix_Clone.T8 : Bool × List (List Nat × List Nat) := (true, [([], []), ([], []), ([], []), ([], []), ([], []), ([], []), ([3, 4, 5], [3, 4, 5]), ([0, 1, 2, 6, 6], [0, 1, 2, 6])])
def mat_Matrix_Clone.B8 : List Nat := [0, 0, 0, 0, 0, 0, 56, 127]
theorem mat_Matrix_Clone.tab8 : rtab .any (opsOf Try.f26 8) = mat_Matrix_Clone.T8 := by kernel_rfl
theorem mat_Matrix_Clone.bits8 : waitsOk mat_Matrix_Clone.T8.2 mat_Matrix_Clone.B8 = true := by kernel_rfl
set_option maxHeartbeats 8000000 in
set_option maxRecDepth 100000 in
theorem mat_Matrix_Clone.calls (k : Nat) (a0_0 : Int) (a0_1 : Int) (a0_2 : Int) (A0_3 : Option Addr) (c0_3 : Nat) (l0_3 : List Int) (r1 : Int) (r2 : Int) (r3 : Int) (r4 : List Int) (w : World) (hr0_3 : Kd.C (Kd.int .u64) w A0_3 l0_3.length l0_3) (hc0_3 : l0_3.length ≤ c0_3) (h : mat_Matrix_Clone.f k a0_0 a0_1 a0_2 l0_3 = some (r1, r2, r3, r4)) :
  Calls Try.prog 26 #[.agg #[.int .i64 a0_0, .int .i64 a0_1, .int .i64 a0_2, .slice A0_3 l0_3.length c0_3]] w fun e w' => ∃ v3_ : Value, e = .returned (.agg #[.int .i64 r1, .int .i64 r2, .int .i64 r3, v3_]) ∧ Kd.R (Kd.int .u64) 33 w' w.heap.size (fun _ => True) v3_ r4 ∧ Below w.heap.size w w' := by
 have hu25 := Try.underlying25
 have HR0_3 := Aside0.mk hr0_3
 have HC0_3 := Aside0.mk hc0_3
 clear hr0_3 hc0_3
 have HB := Aside0.mk (Below.refl w.heap.size w)
 have H : ((mat_New.f a0_0 a0_1).bind fun bt508 => (mat_Matrix_Clone.l0 k bt508.1 0 a0_0 a0_1 a0_2 l0_3 bt508.1 bt508.2.1 bt508.2.2.1 bt508.2.2.2)) = some (r1, r2, r3, r4) := h
 clear h
 obtain ⟨⟨t508, t509, t510, t511⟩, A20, H⟩ := Option.bind_eq_some_iff.mp H
 (try dsimp -simprocs only at H)
 have A2 := Aside0.mk A20
 clear A20
 have H' := Aside0.mk H
 clear H
 go_enter Try.func26, Try.ntmps26
 go_wp2_with (first | ((with_reducible refine gate_dst (N := 1) rfl ?_); refine gbox (N := 1) (cs := #[.int .i64 a0_0, .int .i64 a0_1, .int .i64 a0_2, .slice A0_3 l0_3.length c0_3]) (t := 25) ?_; intro gb506 hg w3 hbox hb; refine ax4 (below_step bel hb) hbox ((ge hg : w.heap.size ≤ gb506)) ((ge hg : w.heap.size ≤ gb506)) ?_; clear HB; intro HB BK506 GW506 GE506; clear hb hbox hg) | ((with_reducible refine gate_dst (N := 2) rfl ?_); refine gbox (N := 2) (cs := #[.int .i64 0, .int .i64 0, .int .i64 0, .slice none 0 0]) (t := 25) ?_; intro gb507 hg w4 hbox hb; refine ax7 (bb BK506 hb) (below_step bes hb) hbox ((ge hg : w.heap.size ≤ gb507)) ((ge hg : w.heap.size ≤ gb507)) (nl hg BK506) (ng hg BK506) ?_; clear BK506; clear HB; intro BK506 HB BK507 GW507 GE507 NB506_507 NB507_506; clear hb hbox hg; have hnb5 := NB506_507.out; have hnc5 := NB507_506.out; have hcz6_0 := bc BK506 0 rfl; have hcz6_1 := bc BK506 1 rfl; have hcz6_2 := bc BK506 2 rfl; have hcz6_3 := bc BK506 3 rfl; have hfz6_0 := blk_frozen BK506.out 0; have hfz6_1 := blk_frozen BK506.out 1; have hfz6_2 := blk_frozen BK506.out 2; have hfz6_3 := blk_frozen BK506.out 3) | ((with_reducible refine gate_callee (f := 20) rfl ?_); refine goesL_ (some 10) rfl rfl Try.func20 (by kernel_rfl) rfl #[.int .i64 a0_0, .int .i64 a0_1] rfl ga ?_; (with_reducible refine (mat_New.calls a0_0 a0_1 t508 t509 t510 t511 _ A2.out).mono ?_); rintro e w7 ⟨v512, rfl, ho0, hb⟩; refine ⟨_, rfl, ?_⟩; refine ax4 (Kd.R_lower ho0 (below_size bes)) (bb BK506 hb) (bb BK507 hb) (below_step bes hb) ?_; clear BK506; clear BK507; clear HB; intro HO513 BK506 BK507 HB; (try clear hb); (try clear ho0)) | ((with_reducible refine gate_dst (N := 3) rfl ?_); refine gbox (N := 3) (cs := #[.int .i64 0, .int .i64 0, .int .i64 0, .slice none 0 0]) (t := 25) ?_; intro gb514 hg w8 hbox hb; refine ax11 (Kd.R_below (kr HO513) hb) (bb BK506 hb) (bb BK507 hb) (below_step bes hb) hbox ((ge hg : w.heap.size ≤ gb514)) ((ge hg : w.heap.size ≤ gb514)) (nl hg BK506) (ng hg BK506) (nl hg BK507) (ng hg BK507) ?_; clear HO513; clear BK506; clear BK507; clear HB; intro HO513 BK506 BK507 HB BK514 GW514 GE514 NB506_514 NB514_506 NB507_514 NB514_507; clear hb hbox hg; have hnb9 := NB514_506.out; have hnc9 := NB506_514.out; have hnb10 := NB514_507.out; have hnc10 := NB507_514.out; have hcz11_0 := bc BK514 0 rfl; have hcz11_1 := bc BK514 1 rfl; have hcz11_2 := bc BK514 2 rfl; have hcz11_3 := bc BK514 3 rfl; have hfz11_0 := blk_frozen BK514.out 0; have hfz11_1 := blk_frozen BK514.out 1; have hfz11_2 := blk_frozen BK514.out 2; have hfz11_3 := blk_frozen BK514.out 3; obtain ⟨Ao12, co12, eo12⟩ := Kd.R_slice HO513.out; subst eo12))
 go_loopg [13] k (fun kq v13 w' => ∃ (x13_1 : Int) (x515003_1 : List Int) (u515003 : Value), v13 = .int .i64 x13_1 ∧ Aside0 (mat_Matrix_Clone.l0 kq t508 x13_1 a0_0 a0_1 a0_2 l0_3 t508 t509 t510 x515003_1 = some (r1, r2, r3, r4)) ∧ Aside0 (kq ≤ k) ∧ Aside0 (Kd.R (Kd.int .u64) 33 w' w.heap.size (fun _ => True) u515003 x515003_1) ∧ Aside0 (w'.heap[gb506]? = some (.cells #[.int .i64 a0_0, .int .i64 a0_1, .int .i64 a0_2, (.slice A0_3 l0_3.length c0_3)] 25 (0, 0))) ∧ Aside0 (w'.heap[gb507]? = some (.cells #[.int .i64 0, .int .i64 0, .int .i64 0, (.slice none 0 0)] 25 (0, 0))) ∧ Aside0 (w'.heap[gb514]? = some (.cells #[.int .i64 t508, .int .i64 t509, .int .i64 t510, u515003] 25 (0, 0))) ∧ Aside0 (Below w.heap.size w w'))
 case atStart => exact ⟨(0), (t511), (.slice Ao12 t511.length co12), (by first | rfl | (simp; done) | (simp [*]; done)), H', ⟨Nat.le_refl _⟩, ⟨by (with_reducible repeat (first | apply Kd.R_alloc | apply Kd.R_drewN | apply Kd.R_drew)); exact Kd.R_mono (Kd.R_far (p := ⟨gb514, 3, none⟩) (Kd.R_far (p := ⟨gb514, 2, none⟩) (Kd.R_far (p := ⟨gb514, 1, none⟩) (Kd.R_far (p := ⟨gb514, 0, none⟩) (Kd.R_types HO513.out BK514.out (by decide)) (fun _ hk => hk.2) (.int .i64 t508)) (fun _ hk => hk.2) (.int .i64 t509)) (fun _ hk => hk.2) (.int .i64 t510)) (fun _ hk => hk.2) (.slice Ao12 t511.length co12)) (fun _ hk => trivial)⟩, ⟨bf BK506 NB506_514⟩, ⟨bf BK507 NB507_514⟩, ⟨bp BK514⟩, ⟨bes⟩⟩
 case round =>
  clear H'
  try clear c1
  try clear c2
  try clear p2
  try clear c5
  try clear c9
  try clear c10
  try clear hcz11_0
  try clear hcz11_1
  try clear hcz11_2
  try clear hcz11_3
  try clear hcz6_0
  try clear hcz6_1
  try clear hcz6_2
  try clear hcz6_3
  try clear hfz11_0
  try clear hfz11_1
  try clear hfz11_2
  try clear hfz11_3
  try clear hfz6_0
  try clear hfz6_1
  try clear hfz6_2
  try clear hfz6_3
  obtain ⟨x13_1, x515003_1, u515003, rfl, HA, HK1, HO_515003, BK506, BK507, BK514, HB⟩ := hrel
  cases gk with
  | zero => exact absurd HA.out (by simp [mat_Matrix_Clone.l0])
  | succ k1 =>
   have H := HA.out
   clear HA
   simp only [mat_Matrix_Clone.l0] at H
   by_cases c13 : x13_1 < t508
   ·
    rw [if_pos c13] at H
    have c13b0 : decide (x13_1 < t508) = true := decide_eq_true c13
    clear c13
    have H' := Aside0.mk H
    clear H
    have hnb14 := NB514_506.out
    have hnc14 := NB506_514.out
    have hnb15 := NB514_507.out
    have hnc15 := NB507_514.out
    have hcz16_0 := bc BK514 0 rfl
    have hcz16_1 := bc BK514 1 rfl
    have hcz16_2 := bc BK514 2 rfl
    have hcz16_3 := bc BK514 3 rfl
    have hfz16_0 := blk_frozen BK514.out 0
    have hfz16_1 := blk_frozen BK514.out 1
    have hfz16_2 := blk_frozen BK514.out 2
    have hfz16_3 := blk_frozen BK514.out 3
    go_wp2
    go_loopg [18] k1 (fun kq v18 w' => ∃ (x18_2 : Int) (x515003_2 : List Int) (u515003 : Value), v18 = .int .i64 x18_2 ∧ Aside0 (mat_Matrix_Clone.l1 kq x13_1 t508 x13_1 t509 x18_2 a0_0 a0_1 a0_2 l0_3 t508 t509 t510 x515003_2 = some (r1, r2, r3, r4)) ∧ Aside0 (kq ≤ k1) ∧ Aside0 (Kd.R (Kd.int .u64) 33 w' w.heap.size (fun _ => True) u515003 x515003_2) ∧ Aside0 (w'.heap[gb506]? = some (.cells #[.int .i64 a0_0, .int .i64 a0_1, .int .i64 a0_2, (.slice A0_3 l0_3.length c0_3)] 25 (0, 0))) ∧ Aside0 (w'.heap[gb507]? = some (.cells #[.int .i64 0, .int .i64 0, .int .i64 0, (.slice none 0 0)] 25 (0, 0))) ∧ Aside0 (w'.heap[gb514]? = some (.cells #[.int .i64 t508, .int .i64 t509, .int .i64 t510, u515003] 25 (0, 0))) ∧ Aside0 (Below w.heap.size w w'))
    case atStart => exact ⟨(0), (x515003_1), (u515003), (by first | rfl | (simp; done) | (simp [*]; done)), H', ⟨Nat.le_refl _⟩, ⟨kr HO_515003⟩, ⟨kb BK506⟩, ⟨kb BK507⟩, ⟨kb BK514⟩, ⟨bes⟩⟩
    case round =>
     clear H'
     try clear c1
     try clear c2
     try clear p2
     try clear c5
     try clear c9
     try clear c10
     try clear c13
     try clear c13b0
     try clear c14
     try clear c15
     try clear hcz11_0
     try clear hcz11_1
     try clear hcz11_2
     try clear hcz11_3
     try clear hcz16_0
     try clear hcz16_1
     try clear hcz16_2
     try clear hcz16_3
     try clear hcz6_0
     try clear hcz6_1
     try clear hcz6_2
     try clear hcz6_3
     try clear hfz11_0
     try clear hfz11_1
     try clear hfz11_2
     try clear hfz11_3
     try clear hfz16_0
     try clear hfz16_1
     try clear hfz16_2
     try clear hfz16_3
     try clear hfz6_0
     try clear hfz6_1
     try clear hfz6_2
     try clear hfz6_3
     try clear p2
     obtain ⟨x18_2, x515003_2, u515003, rfl, HA, HK2, HO_515003, BK506, BK507, BK514, HB⟩ := hrel
     cases gk with
     | zero => exact absurd HA.out (by simp [mat_Matrix_Clone.l1])
     | succ k2 =>
      have H := HA.out
      clear HA
      simp only [mat_Matrix_Clone.l1] at H
      by_cases c17 : x18_2 < t509
      rotate_left
      ·
       rw [if_neg c17] at H
       have c17b0 : decide (x18_2 < t509) = false := decide_eq_false c17
       clear c17
       have H' := Aside0.mk H
       clear H
       go_wp2
       go_roundg k2
       case measure => have := HK1.out; have := HK2.out; omega
       case rel => exact ⟨(wrap64 (x13_1 + 1)), (x515003_2), (u515003), (by first | rfl | (simp; done) | (simp [*]; done)), H', ⟨by have := HK1.out; have := HK2.out; omega⟩, ⟨kr HO_515003⟩, ⟨kb BK506⟩, ⟨kb BK507⟩, ⟨kb BK514⟩, ⟨bes⟩⟩
      rw [if_pos c17] at H
      have c17b0 : decide (x18_2 < t509) = true := decide_eq_true c17
      clear c17
      obtain ⟨t515, A180, H⟩ := Option.bind_eq_some_iff.mp H
      (try dsimp -simprocs only at H)
      have A18 := Aside0.mk A180
      clear A180
      obtain ⟨t516, A190, H⟩ := Option.bind_eq_some_iff.mp H
      (try dsimp -simprocs only at H)
      have A19 := Aside0.mk A190
      clear A190
      have H' := Aside0.mk H
      clear H
      try go_wp2
      refine ax5 (Kd.R_drew HO_515003.out) (blk_drew BK506.out) (blk_drew BK507.out) (blk_drew BK514.out) (below_drew1 HB.out) ?_
      clear HO_515003 BK506 BK507 BK514 HB
      intro HO_515003 BK506 BK507 BK514 HB
      refine start_ (n := 8) (S := fun w' => w'.cell? ⟨gb514, 0, none⟩ = some (.int .i64 t508) ∧ w'.cell? ⟨gb514, 1, none⟩ = some (.int .i64 t509) ∧ w'.cell? ⟨gb514, 2, none⟩ = some (.int .i64 t510) ∧ w'.cell? ⟨gb514, 3, none⟩ = some (u515003) ∧ w'.cell? ⟨gb506, 0, none⟩ = some (.int .i64 a0_0) ∧ w'.cell? ⟨gb506, 1, none⟩ = some (.int .i64 a0_1) ∧ w'.cell? ⟨gb506, 2, none⟩ = some (.int .i64 a0_2) ∧ w'.cell? ⟨gb506, 3, none⟩ = some (.slice A0_3 l0_3.length c0_3)) (ds := []) #[false, false, false, false, false, false, false, false] (by kernel_rfl) rfl rfl ⟨bk BK514 0, bk BK514 1, bk BK514 2, bk BK514 3, bk BK506 0, bk BK506 1, bk BK506 2, bk BK506 3⟩ (fun hHeld => ?_); refine with_tabW mat_Matrix_Clone.tab8 mat_Matrix_Clone.bits8 (fun HT_ HW_ => ?_)
      generalize wr.drew = w20 at HO_515003 BK506 BK507 BK514 HB hHeld ⊢
      refine pu 1 22 (lm 8 2) HT_ ?_
      refine pu 2 23 (lm 8 6) HT_ ?_
      refine pu 4 25 (lm 8 22) HT_ ?_
      refine pu 5 26 (lm 8 54) HT_ ?_
      refine ta 0 21 (lm 8 55) HT_ HW_ hHeld ?_
      refine ta 3 24 (lm 8 63) HT_ HW_ hHeld ?_
      refine on 6 (some 27) (lm 8 127) HT_ (fun K hK => ?_)
      refine goes_ Try.func17 (by kernel_rfl) rfl #[.agg #[.int .i64 a0_0, .int .i64 a0_1, .int .i64 a0_2, .slice A0_3 l0_3.length c0_3], .int .i64 x13_1, .int .i64 x18_2] (by rfl) rfl rfl ga ?_
      with_reducible refine (mat_Matrix_At.calls a0_0 a0_1 a0_2 _ _ l0_3 x13_1 x18_2 t515 _ ?side1 ?side2 A18.out).mono ?_
      (case side1 => repeat (first | exact (Kd.C_below HR0_3.out HB.out) | (with_reducible refine Kd.C_alloc ?_ _) | (with_reducible refine Kd.C_drewN ?_ _) | (with_reducible refine Kd.C_drew ?_)))
      (case side2 => exact HC0_3.out)
      rintro e w21 ⟨rfl, hb⟩
      refine ⟨_, rfl, ?_⟩
      refine ax5 (Kd.R_below (kr HO_515003) hb) (bb BK506 hb) (bb BK507 hb) (bb BK514 hb) (below_step bes hb) ?_
      clear HO_515003 BK506 BK507 BK514 HB
      intro HO_515003 BK506 BK507 BK514 HB
      (try clear hb)
      (try clear hb2)
      (try clear hk)
      (try clear hi)
      obtain ⟨Ao22, co22, eo22⟩ := Kd.R_slice HO_515003.out
      (first | subst eo22 | (injection eo22 with f1_ f2_ f3_; have f4_ := f1_.symm; have f5_ := f3_.symm; clear f1_ f2_ f3_; subst f4_; subst f5_))
      refine hK.out _ _ ⟨bk BK514 0, bk BK514 1, bk BK514 2, bk BK514 3, bk BK506 0, bk BK506 1, bk BK506 2, bk BK506 3⟩ (fun hHeld => ?_)
      clear hK K
      refine no 27 ?_
      refine on 7 (some 28) (lm 8 255) HT_ (fun K hK => ?_)
      refine goes_ Try.func21 (by kernel_rfl) rfl #[.agg #[.int .i64 t508, .int .i64 t509, .int .i64 t510, .slice Ao22 x515003_2.length co22], .int .i64 x13_1, .int .i64 x18_2, .int .u64 t515] (by rfl) rfl rfl ga ?_
      with_reducible refine (mat_Matrix_Set.calls t508 t509 t510 (fun k_ => some k_ = (.slice Ao22 x515003_2.length co22 : Value).ownBlock) (.slice Ao22 x515003_2.length co22) x515003_2 x13_1 x18_2 t515 t516 w _ ?side1 ?side2 A19.out).mono ?_
      (case side1 => repeat (first | (with_reducible first | exact HB.out | apply below_alloc | apply pw_below_drewN | apply below_drew1 | refine below_set ?_ GE506.out | refine below_set ?_ GE507.out | refine below_set ?_ GE514.out) | exact HB.out))
      (case side2 => exact Kd.R_tight rfl HO_515003.out)
      rintro e w23 ⟨rfl, hy0, hb, hkp⟩
      refine ⟨_, rfl, ?_⟩
      refine ax5 (Kd.R_reok rfl hy0 (fun k_ e_ => HO_515003.out.1 k_ e_)) (blk_kept (kb BK506) hkp (fun hs_ => (fun e_ => (Kd.R_ne HO_515003.out BK506.out (by decide)) e_) hs_)) (blk_kept (kb BK507) hkp (fun hs_ => (fun e_ => (Kd.R_ne HO_515003.out BK507.out (by decide)) e_) hs_)) (blk_kept (kb BK514) hkp (fun hs_ => (fun e_ => (Kd.R_ne HO_515003.out BK514.out (by decide)) e_) hs_)) hb ?_
      clear HO_515003 BK506 BK507 BK514 HB
      intro HO_515003 BK506 BK507 BK514 HB
      (try clear hb)
      (try clear hkp)
      (try clear hy0)
      refine hK.out _ _ ⟨bk BK514 0, bk BK514 1, bk BK514 2, bk BK514 3, bk BK506 0, bk BK506 1, bk BK506 2, bk BK506 3⟩ (fun hHeld => ?_)
      clear hK K
      refine no 28 ?_
      refine done_ (done_of HT_.out (by kernel_rfl)) ?_
      try go_wp2
      go_roundg k2
      case measure => have := HK1.out; have := HK2.out; omega
      case rel => exact ⟨(wrap64 (x18_2 + 1)), (t516), (.slice Ao22 x515003_2.length co22), (by first | rfl | (simp; done) | (simp [*]; done)), H', ⟨by have := HK1.out; have := HK2.out; omega⟩, ⟨kr HO_515003⟩, ⟨kb BK506⟩, ⟨kb BK507⟩, ⟨kb BK514⟩, ⟨bes⟩⟩
   ·
    rw [if_neg c13] at H
    have c13b0 : decide (x13_1 < t508) = false := decide_eq_false c13
    clear c13
    simp only [Option.some.injEq, Prod.mk.injEq] at H
    obtain ⟨rfl, rfl, rfl, rfl⟩ := H
    have hnb24 := NB514_506.out
    have hnc24 := NB506_514.out
    have hnb25 := NB514_507.out
    have hnc25 := NB507_514.out
    have hcz26_0 := bc BK514 0 rfl
    have hcz26_1 := bc BK514 1 rfl
    have hcz26_2 := bc BK514 2 rfl
    have hcz26_3 := bc BK514 3 rfl
    have hfz26_0 := blk_frozen BK514.out 0
    have hfz26_1 := blk_frozen BK514.out 1
    have hfz26_2 := blk_frozen BK514.out 2
    have hfz26_3 := blk_frozen BK514.out 3
    have hnb27 := NB507_506.out
    have hnc27 := NB506_507.out
    have hcz28_0 := bc BK507 0 rfl
    have hcz28_1 := bc BK507 1 rfl
    have hcz28_2 := bc BK507 2 rfl
    have hcz28_3 := bc BK507 3 rfl
    have hfz28_0 := blk_frozen BK507.out 0
    have hfz28_1 := blk_frozen BK507.out 1
    have hfz28_2 := blk_frozen BK507.out 2
    have hfz28_3 := blk_frozen BK507.out 3
    obtain ⟨Ao29, co29, eo29⟩ := Kd.R_slice HO_515003.out
    subst eo29
    go_wp2
    refine bodyPost_ret (results_cell_row rfl _ _ gb507 25 #[.int .i64 t508, .int .i64 t509, .int .i64 t510, .slice Ao29 x515003_1.length co29] (0, 0) _ rfl (bp BK507) Try.underlying25 rfl (by kernel_rfl)) rfl ?_
    exact ⟨_, er, by (with_reducible repeat (first | apply Kd.R_alloc | apply Kd.R_drewN | apply Kd.R_drew)); exact Kd.R_mono (Kd.R_far (p := ⟨gb507, 3, none⟩) (Kd.R_far (p := ⟨gb507, 2, none⟩) (Kd.R_far (p := ⟨gb507, 1, none⟩) (Kd.R_far (p := ⟨gb507, 0, none⟩) (Kd.R_types HO_515003.out BK507.out (by decide)) (fun _ hk => hk.2) (.int .i64 t508)) (fun _ hk => hk.2) (.int .i64 t509)) (fun _ hk => hk.2) (.int .i64 t510)) (fun _ hk => hk.2) (.slice Ao29 x515003_1.length co29)) (fun _ hk => trivial), bes⟩

end Go.Proofs.Ytfogmgcpajndcaa.F
