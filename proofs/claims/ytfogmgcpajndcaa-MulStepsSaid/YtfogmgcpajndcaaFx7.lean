-- Written by a program of this seat's session (mkprint), out of the translation.
import Derived.Test.YtfogmgcpajndcaaShort
import Derived.Test.YtfogmgcpajndcaaFx0
import Derived.Test.YtfogmgcpajndcaaFx2
import Derived.Test.YtfogmgcpajndcaaFx6
namespace Go.Proofs.Ytfogmgcpajndcaa.F
open Go.RowKit Go.Proofs.YtfogmgcpajndcaaW.PrintWords Go.Proofs.YtfogmgcpajndcaaW.PrintLast Go.Proofs.YtfogmgcpajndcaaW.PrintMore
attribute [local go_sem] max2_int min2_int max_two min_two max_three min_three max_four min_four   -- for this text's walks alone
set_option linter.unusedVariables false
set_option linter.unusedSimpArgs false

/-! ### mat_Matrix_Check: function 25 -/
mutual
def mat_Matrix_Check.j0 : Nat → Bool → Int → Int → Int → List Int → Option (Int)
 | 0, _, _, _, _, _ => none
 | k + 1, x3, x241000, x241001, x241002, x241003 => if x3 = true then (some 4) else (if x241000 = 0 then (mat_Matrix_Check.j1 k true x241000 x241001 x241002 x241003) else (mat_Matrix_Check.j1 k (x241001 == 0) x241000 x241001 x241002 x241003))
def mat_Matrix_Check.j1 : Nat → Bool → Int → Int → Int → List Int → Option (Int)
 | 0, _, _, _, _, _ => none
 | k + 1, x34, x241000, x241001, x241002, x241003 => if x34 = true then (some 0) else (if (wrap64 ((wrap64 ((wrap64 (x241000 - 1)) * x241002)) + x241001)) > (x241003.length : Int) then (some 4) else (some 0))
end
def mat_Matrix_Check.f (k : Nat) (a0_0 : Int) (a0_1 : Int) (a0_2 : Int) (l0_3 : List Int) : Option (Int) := if a0_0 < 0 then (mat_Matrix_Check.j0 k true a0_0 a0_1 a0_2 l0_3) else (if a0_0 > 4096 then (mat_Matrix_Check.j0 k true a0_0 a0_1 a0_2 l0_3) else (if a0_1 < 0 then (mat_Matrix_Check.j0 k true a0_0 a0_1 a0_2 l0_3) else (if a0_1 > 4096 then (mat_Matrix_Check.j0 k true a0_0 a0_1 a0_2 l0_3) else (if a0_2 < a0_1 then (mat_Matrix_Check.j0 k true a0_0 a0_1 a0_2 l0_3) else (mat_Matrix_Check.j0 k (decide (a0_2 > 1099511627776)) a0_0 a0_1 a0_2 l0_3)))))
theorem mat_Matrix_Check.mono_l : ∀ k, (∀ y0 y1 y2 y3 y4, LeO (mat_Matrix_Check.j0 k y0 y1 y2 y3 y4) (mat_Matrix_Check.j0 (k + 1) y0 y1 y2 y3 y4)) ∧ (∀ y0 y1 y2 y3 y4, LeO (mat_Matrix_Check.j1 k y0 y1 y2 y3 y4) (mat_Matrix_Check.j1 (k + 1) y0 y1 y2 y3 y4))
 | 0 => ⟨fun _ _ _ _ _ r h => by simp [mat_Matrix_Check.j0] at h, fun _ _ _ _ _ r h => by simp [mat_Matrix_Check.j1] at h⟩
 | k + 1 => by
  obtain ⟨ih0, ih1⟩ := mat_Matrix_Check.mono_l k
  refine ⟨?_, ?_⟩ <;> intros <;> (first | unfold mat_Matrix_Check.j0 | unfold mat_Matrix_Check.j1) <;>
   repeat' with_reducible first | apply ih0 | apply ih1 | exact LeO.refl _ | exact LeO.none _ | refine LeO.ite ?_ ?_ | refine LeO.bind ?_ (fun _ => ?_)
theorem mat_Matrix_Check.mono : ∀ a0 a1 a2 a3 k, LeO (mat_Matrix_Check.f k a0 a1 a2 a3) (mat_Matrix_Check.f (k + 1) a0 a1 a2 a3) := by
 intro a0 a1 a2 a3 k
 obtain ⟨ih0, ih1⟩ := mat_Matrix_Check.mono_l k
 unfold mat_Matrix_Check.f
 repeat' with_reducible first | apply ih0 | apply ih1 | exact LeO.refl _ | exact LeO.none _ | refine LeO.ite ?_ ?_ | refine LeO.bind ?_ (fun _ => ?_)
set_option maxHeartbeats 8000000 in
set_option maxRecDepth 100000 in
theorem mat_Matrix_Check.calls (k : Nat) (a0_0 : Int) (a0_1 : Int) (a0_2 : Int) (A0_3 : Option Addr) (c0_3 : Nat) (l0_3 : List Int) (r : Int) (w : World) (hr0_3 : Kd.C (Kd.int .u64) w A0_3 l0_3.length l0_3) (hc0_3 : l0_3.length ≤ c0_3) (h : mat_Matrix_Check.f k a0_0 a0_1 a0_2 l0_3 = some r) :
  Calls Try.prog 25 #[.agg #[.int .i64 a0_0, .int .i64 a0_1, .int .i64 a0_2, .slice A0_3 l0_3.length c0_3]] w fun e w' => e = .returned (.int .i64 r) ∧ Below w.heap.size w w' := by
 have hu25 := Try.underlying25
 have HR0_3 := Aside0.mk hr0_3
 have HC0_3 := Aside0.mk hc0_3
 clear hr0_3 hc0_3
 have HB := Aside0.mk (Below.refl w.heap.size w)
 have H : (if a0_0 < 0 then (mat_Matrix_Check.j0 k true a0_0 a0_1 a0_2 l0_3) else (if a0_0 > 4096 then (mat_Matrix_Check.j0 k true a0_0 a0_1 a0_2 l0_3) else (if a0_1 < 0 then (mat_Matrix_Check.j0 k true a0_0 a0_1 a0_2 l0_3) else (if a0_1 > 4096 then (mat_Matrix_Check.j0 k true a0_0 a0_1 a0_2 l0_3) else (if a0_2 < a0_1 then (mat_Matrix_Check.j0 k true a0_0 a0_1 a0_2 l0_3) else (mat_Matrix_Check.j0 k (decide (a0_2 > 1099511627776)) a0_0 a0_1 a0_2 l0_3)))))) = some r := h
 clear h
 have HC2 := Aside0.mk H
 clear H
 go_enter Try.func25, Try.ntmps25
 go_upto_region 1 with (first | ((with_reducible refine gate_dst (N := 1) rfl ?_); refine gbox (N := 1) (cs := #[.int .i64 a0_0, .int .i64 a0_1, .int .i64 a0_2, .slice A0_3 l0_3.length c0_3]) (t := 25) ?_; intro gb240 hg w3 hbox hb; refine ax4 (below_step bel hb) hbox ((ge hg : w.heap.size ≤ gb240)) ((ge hg : w.heap.size ≤ gb240)) ?_; clear HB; intro HB BK240 GW240 GE240; clear hb hbox hg))
 (try simp only [Act.put, sa0, sa1, sa2])
 go_cut [3] (fun v3 wc => ∃ (kq : Nat) (x3_1 : Bool), v3 = .bool x3_1 ∧ Aside0 (mat_Matrix_Check.j0 kq x3_1 a0_0 a0_1 a0_2 l0_3 = some r) ∧ Aside0 (kq ≤ k) ∧ Aside0 (wc.heap[gb240]? = some (.cells #[.int .i64 a0_0, .int .i64 a0_1, .int .i64 a0_2, (.slice A0_3 l0_3.length c0_3)] 25 (0, 0))) ∧ Aside0 (Below w.heap.size w wc))
 case first =>
  have H := HC2.out
  clear HC2
  by_cases c4 : a0_0 < 0
  ·
   rw [if_pos c4] at H
   have c4b0 : decide (a0_0 < 0) = true := decide_eq_true c4
   clear c4
   (first | rw [c4b0] | (simp only [i64_w, i32_w]; rw [c4b0]) | skip)
   have H' := Aside0.mk H
   clear H
   have hcz5_0 := bc BK240 0 rfl
   have hcz5_1 := bc BK240 1 rfl
   have hcz5_2 := bc BK240 2 rfl
   have hcz5_3 := bc BK240 3 rfl
   have hfz5_0 := blk_frozen BK240.out 0
   have hfz5_1 := blk_frozen BK240.out 1
   have hfz5_2 := blk_frozen BK240.out 2
   have hfz5_3 := blk_frozen BK240.out 3
   go_wp2
   go_meet
   case rel => exact ⟨_, (true), (by first | rfl | (simp; done) | (simp [*]; done)), H', ⟨by first | omega | exact Nat.le_refl _⟩, ⟨kb BK240⟩, ⟨bes⟩⟩
  ·
   rw [if_neg c4] at H
   have c4b0 : decide (a0_0 < 0) = false := decide_eq_false c4
   clear c4
   (first | rw [c4b0] | (simp only [i64_w, i32_w]; rw [c4b0]) | skip)
   by_cases c6 : a0_0 > 4096
   ·
    rw [if_pos c6] at H
    have c6b0 : decide (4096 < a0_0) = true := decide_eq_true c6
    clear c6
    have H' := Aside0.mk H
    clear H
    have hcz7_0 := bc BK240 0 rfl
    have hcz7_1 := bc BK240 1 rfl
    have hcz7_2 := bc BK240 2 rfl
    have hcz7_3 := bc BK240 3 rfl
    have hfz7_0 := blk_frozen BK240.out 0
    have hfz7_1 := blk_frozen BK240.out 1
    have hfz7_2 := blk_frozen BK240.out 2
    have hfz7_3 := blk_frozen BK240.out 3
    go_wp2
    go_meet
    case rel => exact ⟨_, (true), (by first | rfl | (simp; done) | (simp [*]; done)), H', ⟨by first | omega | exact Nat.le_refl _⟩, ⟨kb BK240⟩, ⟨bes⟩⟩
   ·
    rw [if_neg c6] at H
    have c6b0 : decide (4096 < a0_0) = false := decide_eq_false c6
    clear c6
    by_cases c8 : a0_1 < 0
    ·
     rw [if_pos c8] at H
     have c8b0 : decide (a0_1 < 0) = true := decide_eq_true c8
     clear c8
     have H' := Aside0.mk H
     clear H
     have hcz9_0 := bc BK240 0 rfl
     have hcz9_1 := bc BK240 1 rfl
     have hcz9_2 := bc BK240 2 rfl
     have hcz9_3 := bc BK240 3 rfl
     have hfz9_0 := blk_frozen BK240.out 0
     have hfz9_1 := blk_frozen BK240.out 1
     have hfz9_2 := blk_frozen BK240.out 2
     have hfz9_3 := blk_frozen BK240.out 3
     go_wp2
     go_meet
     case rel => exact ⟨_, (true), (by first | rfl | (simp; done) | (simp [*]; done)), H', ⟨by first | omega | exact Nat.le_refl _⟩, ⟨kb BK240⟩, ⟨bes⟩⟩
    ·
     rw [if_neg c8] at H
     have c8b0 : decide (a0_1 < 0) = false := decide_eq_false c8
     clear c8
     by_cases c10 : a0_1 > 4096
     ·
      rw [if_pos c10] at H
      have c10b0 : decide (4096 < a0_1) = true := decide_eq_true c10
      clear c10
      have H' := Aside0.mk H
      clear H
      have hcz11_0 := bc BK240 0 rfl
      have hcz11_1 := bc BK240 1 rfl
      have hcz11_2 := bc BK240 2 rfl
      have hcz11_3 := bc BK240 3 rfl
      have hfz11_0 := blk_frozen BK240.out 0
      have hfz11_1 := blk_frozen BK240.out 1
      have hfz11_2 := blk_frozen BK240.out 2
      have hfz11_3 := blk_frozen BK240.out 3
      go_wp2
      go_meet
      case rel => exact ⟨_, (true), (by first | rfl | (simp; done) | (simp [*]; done)), H', ⟨by first | omega | exact Nat.le_refl _⟩, ⟨kb BK240⟩, ⟨bes⟩⟩
     ·
      rw [if_neg c10] at H
      have c10b0 : decide (4096 < a0_1) = false := decide_eq_false c10
      clear c10
      by_cases c12 : a0_2 < a0_1
      ·
       rw [if_pos c12] at H
       have c12b0 : decide (a0_2 < a0_1) = true := decide_eq_true c12
       clear c12
       have H' := Aside0.mk H
       clear H
       have hcz13_0 := bc BK240 0 rfl
       have hcz13_1 := bc BK240 1 rfl
       have hcz13_2 := bc BK240 2 rfl
       have hcz13_3 := bc BK240 3 rfl
       have hfz13_0 := blk_frozen BK240.out 0
       have hfz13_1 := blk_frozen BK240.out 1
       have hfz13_2 := blk_frozen BK240.out 2
       have hfz13_3 := blk_frozen BK240.out 3
       go_wp2
       go_meet
       case rel => exact ⟨_, (true), (by first | rfl | (simp; done) | (simp [*]; done)), H', ⟨by first | omega | exact Nat.le_refl _⟩, ⟨kb BK240⟩, ⟨bes⟩⟩
      ·
       rw [if_neg c12] at H
       have c12b0 : decide (a0_2 < a0_1) = false := decide_eq_false c12
       clear c12
       have H' := Aside0.mk H
       clear H
       have hcz14_0 := bc BK240 0 rfl
       have hcz14_1 := bc BK240 1 rfl
       have hcz14_2 := bc BK240 2 rfl
       have hcz14_3 := bc BK240 3 rfl
       have hfz14_0 := blk_frozen BK240.out 0
       have hfz14_1 := blk_frozen BK240.out 1
       have hfz14_2 := blk_frozen BK240.out 2
       have hfz14_3 := blk_frozen BK240.out 3
       go_wp2
       go_meet
       case rel => exact ⟨_, (decide (a0_2 > 1099511627776)), (by first | rfl | (simp; done) | (simp [*]; done)), H', ⟨by first | omega | exact Nat.le_refl _⟩, ⟨kb BK240⟩, ⟨bes⟩⟩
 case rest =>
  clear HC2
  try clear c1
  try clear c2
  try clear p2
  try clear c4
  try clear c4b0
  try clear c6
  try clear c6b0
  try clear c8
  try clear c8b0
  try clear c10
  try clear c10b0
  try clear c12
  try clear c12b0
  try clear hcz11_0
  try clear hcz11_1
  try clear hcz11_2
  try clear hcz11_3
  try clear hcz13_0
  try clear hcz13_1
  try clear hcz13_2
  try clear hcz13_3
  try clear hcz14_0
  try clear hcz14_1
  try clear hcz14_2
  try clear hcz14_3
  try clear hcz5_0
  try clear hcz5_1
  try clear hcz5_2
  try clear hcz5_3
  try clear hcz7_0
  try clear hcz7_1
  try clear hcz7_2
  try clear hcz7_3
  try clear hcz9_0
  try clear hcz9_1
  try clear hcz9_2
  try clear hcz9_3
  try clear hfz11_0
  try clear hfz11_1
  try clear hfz11_2
  try clear hfz11_3
  try clear hfz13_0
  try clear hfz13_1
  try clear hfz13_2
  try clear hfz13_3
  try clear hfz14_0
  try clear hfz14_1
  try clear hfz14_2
  try clear hfz14_3
  try clear hfz5_0
  try clear hfz5_1
  try clear hfz5_2
  try clear hfz5_3
  try clear hfz7_0
  try clear hfz7_1
  try clear hfz7_2
  try clear hfz7_3
  try clear hfz9_0
  try clear hfz9_1
  try clear hfz9_2
  try clear hfz9_3
  obtain ⟨kq, x3_1, rfl, HA, HJ1, BK240, HB⟩ := hcut
  cases kq with
  | zero => exact absurd HA.out (by simp [mat_Matrix_Check.j0])
  | succ kj1 =>
   have H := HA.out
   clear HA
   simp only [mat_Matrix_Check.j0] at H
   by_cases c15 : x3_1 = true
   ·
    subst c15
    rw [if_pos rfl] at H
    obtain rfl := Option.some.inj H
    go_wp2
    go_ret
    exact ⟨er, bes⟩
   ·
    replace c15 := Bool.eq_false_iff.mpr c15
    subst c15
    rw [if_neg (show ¬ (false = true) by decide)] at H
    have HC16 := Aside0.mk H
    clear H
    go_upto_region 3 with (fail)
    go_cut [34] (fun v34 wc => ∃ (kq : Nat) (x34_15 : Bool), v34 = .bool x34_15 ∧ Aside0 (mat_Matrix_Check.j1 kq x34_15 a0_0 a0_1 a0_2 l0_3 = some r) ∧ Aside0 (kq ≤ kj1) ∧ Aside0 (wc.heap[gb240]? = some (.cells #[.int .i64 a0_0, .int .i64 a0_1, .int .i64 a0_2, (.slice A0_3 l0_3.length c0_3)] 25 (0, 0))) ∧ Aside0 (Below w.heap.size w wc))
    case first =>
     have H := HC16.out
     clear HC16
     by_cases c17 : a0_0 = 0
     ·
      rw [if_pos c17] at H
      have c17b0 : (a0_0 == 0) = true := beq_iff_eq.mpr c17
      have c17b1 : (a0_0 != 0) = false := bne_eq_false_iff_eq.mpr c17
      clear c17
      (first | rw [c17b0] | (simp only [i64_w, i32_w]; rw [c17b0]) | skip)
      have H' := Aside0.mk H
      clear H
      have hcz18_0 := bc BK240 0 rfl
      have hcz18_1 := bc BK240 1 rfl
      have hcz18_2 := bc BK240 2 rfl
      have hcz18_3 := bc BK240 3 rfl
      have hfz18_0 := blk_frozen BK240.out 0
      have hfz18_1 := blk_frozen BK240.out 1
      have hfz18_2 := blk_frozen BK240.out 2
      have hfz18_3 := blk_frozen BK240.out 3
      go_wp2
      go_meet
      case rel => exact ⟨_, (true), (by first | rfl | (simp; done) | (simp [*]; done)), H', ⟨by have := HJ1.out; first | omega | exact Nat.le_refl _⟩, ⟨kb BK240⟩, ⟨bes⟩⟩
     ·
      rw [if_neg c17] at H
      have c17b0 : (a0_0 == 0) = false := beq_eq_false_iff_ne.mpr c17
      have c17b1 : (a0_0 != 0) = true := bne_iff_ne.mpr c17
      (first | rw [c17b0] | (simp only [i64_w, i32_w]; rw [c17b0]) | skip)
      have H' := Aside0.mk H
      clear H
      have hcz19_0 := bc BK240 0 rfl
      have hcz19_1 := bc BK240 1 rfl
      have hcz19_2 := bc BK240 2 rfl
      have hcz19_3 := bc BK240 3 rfl
      have hfz19_0 := blk_frozen BK240.out 0
      have hfz19_1 := blk_frozen BK240.out 1
      have hfz19_2 := blk_frozen BK240.out 2
      have hfz19_3 := blk_frozen BK240.out 3
      go_wp2
      go_meet
      case rel => exact ⟨_, ((a0_1 == 0)), (by first | rfl | (simp; done) | (simp [*]; done)), H', ⟨by have := HJ1.out; first | omega | exact Nat.le_refl _⟩, ⟨kb BK240⟩, ⟨bes⟩⟩
    case rest =>
     clear HC16
     try clear c1
     try clear c2
     try clear p2
     try clear c4
     try clear c4b0
     try clear c6
     try clear c6b0
     try clear c8
     try clear c8b0
     try clear c10
     try clear c10b0
     try clear c12
     try clear c12b0
     try clear c15
     try clear c17
     try clear c17b0
     try clear c17b1
     try clear hcz11_0
     try clear hcz11_1
     try clear hcz11_2
     try clear hcz11_3
     try clear hcz13_0
     try clear hcz13_1
     try clear hcz13_2
     try clear hcz13_3
     try clear hcz14_0
     try clear hcz14_1
     try clear hcz14_2
     try clear hcz14_3
     try clear hcz18_0
     try clear hcz18_1
     try clear hcz18_2
     try clear hcz18_3
     try clear hcz19_0
     try clear hcz19_1
     try clear hcz19_2
     try clear hcz19_3
     try clear hcz5_0
     try clear hcz5_1
     try clear hcz5_2
     try clear hcz5_3
     try clear hcz7_0
     try clear hcz7_1
     try clear hcz7_2
     try clear hcz7_3
     try clear hcz9_0
     try clear hcz9_1
     try clear hcz9_2
     try clear hcz9_3
     try clear hfz11_0
     try clear hfz11_1
     try clear hfz11_2
     try clear hfz11_3
     try clear hfz13_0
     try clear hfz13_1
     try clear hfz13_2
     try clear hfz13_3
     try clear hfz14_0
     try clear hfz14_1
     try clear hfz14_2
     try clear hfz14_3
     try clear hfz18_0
     try clear hfz18_1
     try clear hfz18_2
     try clear hfz18_3
     try clear hfz19_0
     try clear hfz19_1
     try clear hfz19_2
     try clear hfz19_3
     try clear hfz5_0
     try clear hfz5_1
     try clear hfz5_2
     try clear hfz5_3
     try clear hfz7_0
     try clear hfz7_1
     try clear hfz7_2
     try clear hfz7_3
     try clear hfz9_0
     try clear hfz9_1
     try clear hfz9_2
     try clear hfz9_3
     try clear p2
     obtain ⟨kq, x34_15, rfl, HA, HJ15, BK240, HB⟩ := hcut
     cases kq with
     | zero => exact absurd HA.out (by simp [mat_Matrix_Check.j1])
     | succ kj15 =>
      have H := HA.out
      clear HA
      simp only [mat_Matrix_Check.j1] at H
      by_cases c20 : x34_15 = true
      ·
       subst c20
       rw [if_pos rfl] at H
       obtain rfl := Option.some.inj H
       go_wp2
       go_ret
       exact ⟨er, bes⟩
      ·
       replace c20 := Bool.eq_false_iff.mpr c20
       subst c20
       rw [if_neg (show ¬ (false = true) by decide)] at H
       by_cases c21 : (wrap64 ((wrap64 ((wrap64 (a0_0 - 1)) * a0_2)) + a0_1)) > (l0_3.length : Int)
       ·
        rw [if_pos c21] at H
        have c21b0 : decide ((l0_3.length : Int) < (wrap64 ((wrap64 ((wrap64 (a0_0 - 1)) * a0_2)) + a0_1))) = true := decide_eq_true c21
        clear c21
        obtain rfl := Option.some.inj H
        have hcz22_0 := bc BK240 0 rfl
        have hcz22_1 := bc BK240 1 rfl
        have hcz22_2 := bc BK240 2 rfl
        have hcz22_3 := bc BK240 3 rfl
        have hfz22_0 := blk_frozen BK240.out 0
        have hfz22_1 := blk_frozen BK240.out 1
        have hfz22_2 := blk_frozen BK240.out 2
        have hfz22_3 := blk_frozen BK240.out 3
        go_wp2
        go_ret
        exact ⟨er, bes⟩
       ·
        rw [if_neg c21] at H
        have c21b0 : decide ((l0_3.length : Int) < (wrap64 ((wrap64 ((wrap64 (a0_0 - 1)) * a0_2)) + a0_1))) = false := decide_eq_false c21
        clear c21
        obtain rfl := Option.some.inj H
        have hcz23_0 := bc BK240 0 rfl
        have hcz23_1 := bc BK240 1 rfl
        have hcz23_2 := bc BK240 2 rfl
        have hcz23_3 := bc BK240 3 rfl
        have hfz23_0 := blk_frozen BK240.out 0
        have hfz23_1 := blk_frozen BK240.out 1
        have hfz23_2 := blk_frozen BK240.out 2
        have hfz23_3 := blk_frozen BK240.out 3
        go_wp2
        go_ret
        exact ⟨er, bes⟩

/-! ### mul_Norm_nil: function 22 -/
mutual
def mul_Norm_nil.j0 : Nat → Int → Bool → Int → Int → Int → List Int → Option (Int × Int)
 | 0, _, _, _, _, _, _ => none
 | k + 1, x2, x17, x255000, x255001, x255002, x255003 => if x17 = true then (some (9221120237041090560, 1)) else ((mat_Matrix_Finite.f k x255000 x255001 x255002 x255003).bind fun t256 => (if t256 = true then (if x2 = 2 then ((mat_Matrix_Turn.f k x255000 x255001 x255002 x255003).bind fun bt257 => (mul_Norm_nil.j1 k x2 bt257.1 bt257.2.1 bt257.2.2.1 bt257.2.2.2)) else (mul_Norm_nil.j1 k x2 x255000 x255001 x255002 x255003)) else (some (9221120237041090560, 6))))
def mul_Norm_nil.j1 : Nat → Int → Int → Int → Int → List Int → Option (Int × Int)
 | 0, _, _, _, _, _ => none
 | k + 1, x2, x255000, x255001, x255002, x255003 => if x2 = 1 then (none) else (mul_Norm_nil.l0 k 0 x255000 0 x255000 x255001 x255002 x255003)
def mul_Norm_nil.l0 : Nat → Int → Int → Int → Int → Int → Int → List Int → Option (Int × Int)
 | 0, _, _, _, _, _, _, _ => none
 | k + 1, x9, x35, x36, x255000, x255001, x255002, x255003 => if x36 < x35 then (mul_Norm_nil.l1 k x9 x36 0 x35 x36 x255001 0 x255000 x255001 x255002 x255003) else (some (x9, 0))
def mul_Norm_nil.l1 : Nat → Int → Int → Int → Int → Int → Int → Int → Int → Int → Int → List Int → Option (Int × Int)
 | 0, _, _, _, _, _, _, _, _, _, _, _ => none
 | k + 1, x9, x10, x11, x35, x36, x40, x41, x255000, x255001, x255002, x255003 => if x41 < x40 then ((mat_Matrix_At.f x255000 x255001 x255002 x255003 x10 x41).bind fun t263 => ((word_Abs.f t263).bind fun t264 => ((soft_Calc_Add_nil.f k x11 t264).bind fun t265 => (mul_Norm_nil.l1 k x9 x10 t265 x35 x36 x40 (wrap64 (x41 + 1)) x255000 x255001 x255002 x255003)))) else (mul_Norm_nil.l0 k (mx x9 x11) x35 (wrap64 (x36 + 1)) x255000 x255001 x255002 x255003)
end
def mul_Norm_nil.f (k : Nat)  (a1_0 : Int) (a1_1 : Int) (a1_2 : Int) (l1_3 : List Int) (a2 : Int) : Option (Int × Int) := (mat_Matrix_Check.f k a1_0 a1_1 a1_2 l1_3).bind fun t255 => (if t255 = 0 then (if a2 < 1 then (mul_Norm_nil.j0 k a2 true a1_0 a1_1 a1_2 l1_3) else (mul_Norm_nil.j0 k a2 (decide (a2 > 3)) a1_0 a1_1 a1_2 l1_3)) else (some (9221120237041090560, 4)))
theorem mul_Norm_nil.mono_l : ∀ k, (∀ y0 y1 y2 y3 y4 y5, LeO (mul_Norm_nil.j0 k y0 y1 y2 y3 y4 y5) (mul_Norm_nil.j0 (k + 1) y0 y1 y2 y3 y4 y5)) ∧ (∀ y0 y1 y2 y3 y4, LeO (mul_Norm_nil.j1 k y0 y1 y2 y3 y4) (mul_Norm_nil.j1 (k + 1) y0 y1 y2 y3 y4)) ∧ (∀ y0 y1 y2 y3 y4 y5 y6, LeO (mul_Norm_nil.l0 k y0 y1 y2 y3 y4 y5 y6) (mul_Norm_nil.l0 (k + 1) y0 y1 y2 y3 y4 y5 y6)) ∧ (∀ y0 y1 y2 y3 y4 y5 y6 y7 y8 y9 y10, LeO (mul_Norm_nil.l1 k y0 y1 y2 y3 y4 y5 y6 y7 y8 y9 y10) (mul_Norm_nil.l1 (k + 1) y0 y1 y2 y3 y4 y5 y6 y7 y8 y9 y10))
 | 0 => ⟨fun _ _ _ _ _ _ r h => by simp [mul_Norm_nil.j0] at h, fun _ _ _ _ _ r h => by simp [mul_Norm_nil.j1] at h, fun _ _ _ _ _ _ _ r h => by simp [mul_Norm_nil.l0] at h, fun _ _ _ _ _ _ _ _ _ _ _ r h => by simp [mul_Norm_nil.l1] at h⟩
 | k + 1 => by
  obtain ⟨ih0, ih1, ih2, ih3⟩ := mul_Norm_nil.mono_l k
  refine ⟨?_, ?_, ?_, ?_⟩ <;> intros <;> (first | unfold mul_Norm_nil.j0 | unfold mul_Norm_nil.j1 | unfold mul_Norm_nil.l0 | unfold mul_Norm_nil.l1) <;>
   repeat' with_reducible first | apply ih0 | apply ih1 | apply ih2 | apply ih3 | apply mat_Matrix_Check.mono | apply mat_Matrix_Finite.mono | apply mat_Matrix_Turn.mono | apply soft_Calc_Add_nil.mono | exact LeO.refl _ | exact LeO.none _ | refine LeO.ite ?_ ?_ | refine LeO.bind ?_ (fun _ => ?_)
theorem mul_Norm_nil.mono : ∀ a0 a1 a2 a3 a4 k, LeO (mul_Norm_nil.f k a0 a1 a2 a3 a4) (mul_Norm_nil.f (k + 1) a0 a1 a2 a3 a4) := by
 intro a0 a1 a2 a3 a4 k
 obtain ⟨ih0, ih1, ih2, ih3⟩ := mul_Norm_nil.mono_l k
 unfold mul_Norm_nil.f
 repeat' with_reducible first | apply ih0 | apply ih1 | apply ih2 | apply ih3 | apply mat_Matrix_Check.mono | apply mat_Matrix_Finite.mono | apply mat_Matrix_Turn.mono | apply soft_Calc_Add_nil.mono | exact LeO.refl _ | exact LeO.none _ | refine LeO.ite ?_ ?_ | refine LeO.bind ?_ (fun _ => ?_)
set_option maxHeartbeats 8000000 in
set_option maxRecDepth 100000 in
theorem mul_Norm_nil.calls (k : Nat)  (a1_0 : Int) (a1_1 : Int) (a1_2 : Int) (P1_3_ : Nat → Prop) (A1_3 : Option Addr) (c1_3 : Nat) (l1_3 : List Int) (a2 : Int) (r1 : Int) (r2 : Int) (w : World) (hs1_3 : Kd.V (Kd.int .u64) 33 w w.heap.size (fun k_ => P1_3_ k_) (.slice A1_3 l1_3.length c1_3) l1_3) (h : mul_Norm_nil.f k a1_0 a1_1 a1_2 l1_3 a2 = some (r1, r2)) :
  Calls Try.prog 22 #[.pointer none, .agg #[.int .i64 a1_0, .int .i64 a1_1, .int .i64 a1_2, .slice A1_3 l1_3.length c1_3], .int .i64 a2] w fun e w' => e = .returned (.tuple #[.int .u64 r1, .int .i64 r2]) ∧ Below w.heap.size w w' := by
 have hu25 := Try.underlying25
 have HO1_3 := Aside0.mk (show Kd.V (Kd.int .u64) 33 w w.heap.size (fun k_ => (P1_3_ k_ ∨ w.heap.size ≤ k_)) (.slice A1_3 l1_3.length c1_3) l1_3 from Kd.V_mono hs1_3 (fun k_ hk => .inl hk))
 have HB := Aside0.mk (Below.refl w.heap.size w)
 have H : ((mat_Matrix_Check.f k a1_0 a1_1 a1_2 l1_3).bind fun t255 => (if t255 = 0 then (if a2 < 1 then (mul_Norm_nil.j0 k a2 true a1_0 a1_1 a1_2 l1_3) else (mul_Norm_nil.j0 k a2 (decide (a2 > 3)) a1_0 a1_1 a1_2 l1_3)) else (some (9221120237041090560, 4)))) = some (r1, r2) := h
 clear h
 obtain ⟨t255, A40, H⟩ := Option.bind_eq_some_iff.mp H
 (try dsimp -simprocs only at H)
 have A4 := Aside0.mk A40
 clear A40
 by_cases c5 : t255 = 0
 rotate_left
 ·
  rw [if_neg c5] at H
  have c5b0 : (t255 == 0) = false := beq_eq_false_iff_ne.mpr c5
  have c5b1 : (t255 != 0) = true := bne_iff_ne.mpr c5
  simp only [Option.some.injEq, Prod.mk.injEq] at H
  obtain ⟨rfl, rfl⟩ := H
  go_enter Try.func22, Try.ntmps22
  go_wp2_with (first | ((with_reducible refine gate_dst (N := 4) rfl ?_); refine gbox (N := 4) (cs := #[.int .i64 a1_0, .int .i64 a1_1, .int .i64 a1_2, .slice A1_3 l1_3.length c1_3]) (t := 25) ?_; intro gb254 hg w38 hbox hb; refine ax5 (Kd.V_below (Kd.V_elderB (kv HO1_3) gb254 (Nat.le_of_eq hg.symm)) hb) (below_step bel hb) hbox ((ge hg : w.heap.size ≤ gb254)) ((ge hg : w.heap.size ≤ gb254)) ?_; clear HO1_3; clear HB; intro HO1_3 HB BK254 GW254 GE254; clear hb hbox hg; have hcz39_0 := bc BK254 0 rfl; have hcz39_1 := bc BK254 1 rfl; have hcz39_2 := bc BK254 2 rfl; have hcz39_3 := bc BK254 3 rfl; have hfz39_0 := blk_frozen BK254.out 0; have hfz39_1 := blk_frozen BK254.out 1; have hfz39_2 := blk_frozen BK254.out 2; have hfz39_3 := blk_frozen BK254.out 3) | ((with_reducible refine gate_callee (f := 25) rfl ?_); refine goesL_ (some 15) rfl rfl Try.func25 (by kernel_rfl) rfl #[.agg #[.int .i64 a1_0, .int .i64 a1_1, .int .i64 a1_2, .slice A1_3 l1_3.length c1_3]] rfl ga ?_; (with_reducible refine (mat_Matrix_Check.calls k a1_0 a1_1 a1_2 _ _ l1_3 t255 _ ?side1 ?side2 A4.out).mono ?_); (case side1 => exact kvs HO1_3); (case side2 => exact (Kd.V_reads' HO1_3.out).2.1); rintro e w40 ⟨rfl, hb⟩; refine ⟨_, rfl, ?_⟩; refine ax3 (Kd.V_below (kv HO1_3) hb) (bb BK254 hb) (below_step bes hb) ?_; clear HO1_3; clear BK254; clear HB; intro HO1_3 BK254 HB; (try clear hb)))
  go_ret2
  exact ⟨er, bes⟩

 rw [if_pos c5] at H
 have c5b0 : (t255 == 0) = true := beq_iff_eq.mpr c5
 have c5b1 : (t255 != 0) = false := bne_eq_false_iff_eq.mpr c5
 clear c5
 have HC6 := Aside0.mk H
 clear H
 go_enter Try.func22, Try.ntmps22
 go_upto_region 3 with (first | ((with_reducible refine gate_dst (N := 4) rfl ?_); refine gbox (N := 4) (cs := #[.int .i64 a1_0, .int .i64 a1_1, .int .i64 a1_2, .slice A1_3 l1_3.length c1_3]) (t := 25) ?_; intro gb254 hg w7 hbox hb; refine ax5 (Kd.V_below (Kd.V_elderB (kv HO1_3) gb254 (Nat.le_of_eq hg.symm)) hb) (below_step bel hb) hbox ((ge hg : w.heap.size ≤ gb254)) ((ge hg : w.heap.size ≤ gb254)) ?_; clear HO1_3; clear HB; intro HO1_3 HB BK254 GW254 GE254; clear hb hbox hg; have hcz8_0 := bc BK254 0 rfl; have hcz8_1 := bc BK254 1 rfl; have hcz8_2 := bc BK254 2 rfl; have hcz8_3 := bc BK254 3 rfl; have hfz8_0 := blk_frozen BK254.out 0; have hfz8_1 := blk_frozen BK254.out 1; have hfz8_2 := blk_frozen BK254.out 2; have hfz8_3 := blk_frozen BK254.out 3) | ((with_reducible refine gate_callee (f := 25) rfl ?_); refine goesL_ (some 15) rfl rfl Try.func25 (by kernel_rfl) rfl #[.agg #[.int .i64 a1_0, .int .i64 a1_1, .int .i64 a1_2, .slice A1_3 l1_3.length c1_3]] rfl ga ?_; (with_reducible refine (mat_Matrix_Check.calls k a1_0 a1_1 a1_2 _ _ l1_3 t255 _ ?side1 ?side2 A4.out).mono ?_); (case side1 => exact kvs HO1_3); (case side2 => exact (Kd.V_reads' HO1_3.out).2.1); rintro e w9 ⟨rfl, hb⟩; refine ⟨_, rfl, ?_⟩; refine ax3 (Kd.V_below (kv HO1_3) hb) (bb BK254 hb) (below_step bes hb) ?_; clear HO1_3; clear BK254; clear HB; intro HO1_3 BK254 HB; (try clear hb)))
 (try simp only [Act.put, sa0, sa1, sa2])
 go_cut [17] (fun v17 wc => ∃ (kq : Nat) (x17_5 : Bool), v17 = .bool x17_5 ∧ Aside0 (mul_Norm_nil.j0 kq a2 x17_5 a1_0 a1_1 a1_2 l1_3 = some (r1, r2)) ∧ Aside0 (kq ≤ k) ∧ Aside0 (Kd.V (Kd.int .u64) 33 wc w.heap.size (fun k_ => (P1_3_ k_ ∨ w.heap.size ≤ k_) ∧ k_ ≠ gb254) (.slice A1_3 l1_3.length c1_3) l1_3) ∧ Aside0 (wc.heap[gb254]? = some (.cells #[.int .i64 a1_0, .int .i64 a1_1, .int .i64 a1_2, (.slice A1_3 l1_3.length c1_3)] 25 (0, 0))) ∧ Aside0 (Below w.heap.size w wc))
 case first =>
  have H := HC6.out
  clear HC6
  by_cases c10 : a2 < 1
  rotate_left
  ·
   rw [if_neg c10] at H
   have c10b0 : decide (a2 < 1) = false := decide_eq_false c10
   clear c10
   (first | rw [c10b0] | (simp only [i64_w, i32_w]; rw [c10b0]) | skip)
   have H' := Aside0.mk H
   clear H
   go_wp2
   go_meet
   case rel => exact ⟨_, (decide (a2 > 3)), (by first | rfl | (simp; done) | (simp [*]; done)), H', ⟨by first | omega | exact Nat.le_refl _⟩, ⟨kv HO1_3⟩, ⟨kb BK254⟩, ⟨bes⟩⟩
  rw [if_pos c10] at H
  have c10b0 : decide (a2 < 1) = true := decide_eq_true c10
  clear c10
  (first | rw [c10b0] | (simp only [i64_w, i32_w]; rw [c10b0]) | skip)
  have H' := Aside0.mk H
  clear H
  go_wp2
  go_meet
  case rel => exact ⟨_, (true), (by first | rfl | (simp; done) | (simp [*]; done)), H', ⟨by first | omega | exact Nat.le_refl _⟩, ⟨kv HO1_3⟩, ⟨kb BK254⟩, ⟨bes⟩⟩
 case rest =>
  clear HC6
  try clear c1
  try clear c2
  try clear p2
  try clear c5
  try clear c5b0
  try clear c5b1
  try clear c7
  try clear c10
  try clear c10b0
  try clear hcz8_0
  try clear hcz8_1
  try clear hcz8_2
  try clear hcz8_3
  try clear hfz8_0
  try clear hfz8_1
  try clear hfz8_2
  try clear hfz8_3
  obtain ⟨kq, x17_5, rfl, HA, HJ5, HO_255003, BK254, HB⟩ := hcut
  cases kq with
  | zero => exact absurd HA.out (by simp [mul_Norm_nil.j0])
  | succ kj5 =>
   have H := HA.out
   clear HA
   simp only [mul_Norm_nil.j0] at H
   by_cases c11 : x17_5 = true
   ·
    subst c11
    rw [if_pos rfl] at H
    simp only [Option.some.injEq, Prod.mk.injEq] at H
    obtain ⟨rfl, rfl⟩ := H
    go_wp2
    go_ret2
    exact ⟨er, bes⟩
   ·
    replace c11 := Bool.eq_false_iff.mpr c11
    subst c11
    rw [if_neg (show ¬ (false = true) by decide)] at H
    obtain ⟨t256, A120, H⟩ := Option.bind_eq_some_iff.mp H
    (try dsimp -simprocs only at H)
    have A12 := Aside0.mk A120
    clear A120
    by_cases c13 : t256 = true
    ·
     subst c13
     rw [if_pos rfl] at H
     have HC14 := Aside0.mk H
     clear H
     have hcz15_0 := bc BK254 0 rfl
     have hcz15_1 := bc BK254 1 rfl
     have hcz15_2 := bc BK254 2 rfl
     have hcz15_3 := bc BK254 3 rfl
     have hfz15_0 := blk_frozen BK254.out 0
     have hfz15_1 := blk_frozen BK254.out 1
     have hfz15_2 := blk_frozen BK254.out 2
     have hfz15_3 := blk_frozen BK254.out 3
     go_upto_if 29 with (first | ((with_reducible refine gate_callee (f := 7) rfl ?_); refine goesL_ (some 26) rfl rfl Try.func7 (by kernel_rfl) rfl #[.agg #[.int .i64 a1_0, .int .i64 a1_1, .int .i64 a1_2, .slice A1_3 l1_3.length c1_3]] rfl ga ?_; (with_reducible refine (mat_Matrix_Finite.calls kj5 a1_0 a1_1 a1_2 _ _ l1_3 true _ ?side1 ?side2 A12.out).mono ?_); (case side1 => exact kvs HO_255003); (case side2 => exact (Kd.V_reads' HO_255003.out).2.1); rintro e w16 ⟨rfl, hb⟩; refine ⟨_, rfl, ?_⟩; refine ax3 (Kd.V_below (kv HO_255003) hb) (bb BK254 hb) (below_step bes hb) ?_; clear HO_255003; clear BK254; clear HB; intro HO_255003 BK254 HB; (try clear hb)))
     (try simp only [Act.put, sa0, sa1, sa2])
     go_cut [] (fun wc => ∃ (kq : Nat) (x255000_13 : Int) (x255001_13 : Int) (x255002_13 : Int) (x255003_13 : List Int) (u255003 : Value), Aside0 (mul_Norm_nil.j1 kq a2 x255000_13 x255001_13 x255002_13 x255003_13 = some (r1, r2)) ∧ Aside0 (kq ≤ kj5) ∧ Aside0 (Kd.V (Kd.int .u64) 33 wc w.heap.size (fun k_ => (P1_3_ k_ ∨ w.heap.size ≤ k_) ∧ k_ ≠ gb254) u255003 x255003_13) ∧ Aside0 (wc.heap[gb254]? = some (.cells #[.int .i64 x255000_13, .int .i64 x255001_13, .int .i64 x255002_13, u255003] 25 (0, 0))) ∧ Aside0 (Below w.heap.size w wc))
     case first =>
      have H := HC14.out
      clear HC14
      by_cases c17 : a2 = 2
      rotate_left
      ·
       rw [if_neg c17] at H
       have c17b0 : (a2 == 2) = false := beq_eq_false_iff_ne.mpr c17
       have c17b1 : (a2 != 2) = true := bne_iff_ne.mpr c17
       (first | rw [c17b0] | (simp only [i64_w, i32_w]; rw [c17b0]) | skip)
       have H' := Aside0.mk H
       clear H
       go_wp2
       go_meet
       case rel => exact ⟨_, (a1_0), (a1_1), (a1_2), (l1_3), (.slice A1_3 l1_3.length c1_3), H', ⟨by have := HJ5.out; first | omega | exact Nat.le_refl _⟩, ⟨kv HO_255003⟩, ⟨kb BK254⟩, ⟨bes⟩⟩
      rw [if_pos c17] at H
      have c17b0 : (a2 == 2) = true := beq_iff_eq.mpr c17
      have c17b1 : (a2 != 2) = false := bne_eq_false_iff_eq.mpr c17
      clear c17
      (first | rw [c17b0] | (simp only [i64_w, i32_w]; rw [c17b0]) | skip)
      obtain ⟨⟨t257, t258, t259, t260⟩, A180, H⟩ := Option.bind_eq_some_iff.mp H
      (try dsimp -simprocs only at H)
      have A18 := Aside0.mk A180
      clear A180
      have H' := Aside0.mk H
      clear H
      have hcz19_0 := bc BK254 0 rfl
      have hcz19_1 := bc BK254 1 rfl
      have hcz19_2 := bc BK254 2 rfl
      have hcz19_3 := bc BK254 3 rfl
      have hfz19_0 := blk_frozen BK254.out 0
      have hfz19_1 := blk_frozen BK254.out 1
      have hfz19_2 := blk_frozen BK254.out 2
      have hfz19_3 := blk_frozen BK254.out 3
      go_wp2_with (first | ((with_reducible refine gate_callee (f := 10) rfl ?_); refine goesL_ (some 31) rfl rfl Try.func10 (by kernel_rfl) rfl #[.agg #[.int .i64 a1_0, .int .i64 a1_1, .int .i64 a1_2, .slice A1_3 l1_3.length c1_3]] rfl ga ?_; (with_reducible refine (mat_Matrix_Turn.calls kj5 a1_0 a1_1 a1_2 _ _ l1_3 t257 t258 t259 t260 _ ?side1 ?side2 A18.out).mono ?_); (case side1 => exact kvs HO_255003); (case side2 => exact (Kd.V_reads' HO_255003.out).2.1); rintro e w20 ⟨v261, rfl, ho0, hb⟩; refine ⟨_, rfl, ?_⟩; refine ax4 (Kd.V_elder' (kv HO_255003) (Kd.R_base ho0) hb) (Kd.R_lower (Kd.R_newM (M := fun k_ => (w.heap.size ≤ k_)) ho0 (below_size bes) (fun k_ h_ => h_)) (below_size bes)) (bb BK254 hb) (below_step bes hb) ?_; clear HO_255003; clear BK254; clear HB; intro HO_255003 HO262 BK254 HB; (try clear hb); (try clear ho0); have hcz21_0 := bc BK254 0 rfl; have hcz21_1 := bc BK254 1 rfl; have hcz21_2 := bc BK254 2 rfl; have hcz21_3 := bc BK254 3 rfl; have hfz21_0 := blk_frozen BK254.out 0; have hfz21_1 := blk_frozen BK254.out 1; have hfz21_2 := blk_frozen BK254.out 2; have hfz21_3 := blk_frozen BK254.out 3; obtain ⟨Ao22, co22, eo22⟩ := Kd.R_slice HO262.out; subst eo22))
      go_meet
      case rel => exact ⟨_, (t257), (t258), (t259), (t260), (.slice Ao22 t260.length co22), H', ⟨by have := HJ5.out; first | omega | exact Nat.le_refl _⟩, ⟨Kd.V_mono (Kd.R_V (by (with_reducible repeat (first | apply Kd.R_alloc | apply Kd.R_drewN | apply Kd.R_drew)); exact Kd.R_mono (Kd.R_far (p := ⟨gb254, 3, none⟩) (Kd.R_far (p := ⟨gb254, 2, none⟩) (Kd.R_far (p := ⟨gb254, 1, none⟩) (Kd.R_far (p := ⟨gb254, 0, none⟩) (Kd.R_types (Kd.R_types HO262.out BK254.out (by decide)) BK254.out (by decide)) (fun _ hk => hk.2) (.int .i64 t257)) (fun _ hk => hk.2) (.int .i64 t258)) (fun _ hk => hk.2) (.int .i64 t259)) (fun _ hk => hk.2) (.slice Ao22 t260.length co22)) (fun _ hk => (And.intro hk.1.1.1 hk.1.2)))) (fun k_ hk => by first | exact ⟨(.inr (hk.1)), hk.2⟩ | exact (.inr (hk)))⟩, ⟨bp BK254⟩, ⟨bes⟩⟩
     case rest =>
      clear HC14
      try clear c1
      try clear c2
      try clear p2
      try clear c5
      try clear c5b0
      try clear c5b1
      try clear c7
      try clear c10
      try clear c10b0
      try clear c11
      try clear c13
      try clear c17
      try clear c17b0
      try clear c17b1
      try clear hcz15_0
      try clear hcz15_1
      try clear hcz15_2
      try clear hcz15_3
      try clear hcz19_0
      try clear hcz19_1
      try clear hcz19_2
      try clear hcz19_3
      try clear hcz21_0
      try clear hcz21_1
      try clear hcz21_2
      try clear hcz21_3
      try clear hcz8_0
      try clear hcz8_1
      try clear hcz8_2
      try clear hcz8_3
      try clear hfz15_0
      try clear hfz15_1
      try clear hfz15_2
      try clear hfz15_3
      try clear hfz19_0
      try clear hfz19_1
      try clear hfz19_2
      try clear hfz19_3
      try clear hfz21_0
      try clear hfz21_1
      try clear hfz21_2
      try clear hfz21_3
      try clear hfz8_0
      try clear hfz8_1
      try clear hfz8_2
      try clear hfz8_3
      try clear p2
      obtain ⟨kq, x255000_13, x255001_13, x255002_13, x255003_13, u255003, HA, HJ13, HO_255003, BK254, HB⟩ := hcut
      cases kq with
      | zero => exact absurd HA.out (by simp [mul_Norm_nil.j1])
      | succ kj13 =>
       have H := HA.out
       clear HA
       simp only [mul_Norm_nil.j1] at H
       by_cases c23 : a2 = 1
       ·
        rw [if_pos c23] at H
        exact absurd H (by simp)
       ·
        rw [if_neg c23] at H
        have c23b0 : (a2 == 1) = false := beq_eq_false_iff_ne.mpr c23
        have c23b1 : (a2 != 1) = true := bne_iff_ne.mpr c23
        have H' := Aside0.mk H
        clear H
        have hcz24_0 := bc BK254 0 rfl
        have hcz24_1 := bc BK254 1 rfl
        have hcz24_2 := bc BK254 2 rfl
        have hcz24_3 := bc BK254 3 rfl
        have hfz24_0 := blk_frozen BK254.out 0
        have hfz24_1 := blk_frozen BK254.out 1
        have hfz24_2 := blk_frozen BK254.out 2
        have hfz24_3 := blk_frozen BK254.out 3
        go_wp2
        go_loopg [9, 36] kj13 (fun kq v9 v36 w' => ∃ (x9_3 : Int) (x36_3 : Int), v9 = .int .u64 x9_3 ∧ v36 = .int .i64 x36_3 ∧ Aside0 (mul_Norm_nil.l0 kq x9_3 x255000_13 x36_3 x255000_13 x255001_13 x255002_13 x255003_13 = some (r1, r2)) ∧ Aside0 (kq ≤ kj13) ∧ Aside0 (Kd.V (Kd.int .u64) 33 w' w.heap.size (fun k_ => (P1_3_ k_ ∨ w.heap.size ≤ k_) ∧ k_ ≠ gb254) u255003 x255003_13) ∧ Aside0 (w'.heap[gb254]? = some (.cells #[.int .i64 x255000_13, .int .i64 x255001_13, .int .i64 x255002_13, u255003] 25 (0, 0))) ∧ Aside0 (Below w.heap.size w w'))
        case atStart => exact ⟨(0), (0), (by first | rfl | (simp; done) | (simp [*]; done)), (by first | rfl | (simp; done) | (simp [*]; done)), H', ⟨Nat.le_refl _⟩, ⟨kv HO_255003⟩, ⟨kb BK254⟩, ⟨bes⟩⟩
        case round =>
         clear H'
         try clear c1
         try clear c2
         try clear p2
         try clear c5
         try clear c5b0
         try clear c5b1
         try clear c7
         try clear c10
         try clear c10b0
         try clear c11
         try clear c13
         try clear c17
         try clear c17b0
         try clear c17b1
         try clear c23
         try clear c23b0
         try clear c23b1
         try clear hcz15_0
         try clear hcz15_1
         try clear hcz15_2
         try clear hcz15_3
         try clear hcz19_0
         try clear hcz19_1
         try clear hcz19_2
         try clear hcz19_3
         try clear hcz21_0
         try clear hcz21_1
         try clear hcz21_2
         try clear hcz21_3
         try clear hcz24_0
         try clear hcz24_1
         try clear hcz24_2
         try clear hcz24_3
         try clear hcz8_0
         try clear hcz8_1
         try clear hcz8_2
         try clear hcz8_3
         try clear hfz15_0
         try clear hfz15_1
         try clear hfz15_2
         try clear hfz15_3
         try clear hfz19_0
         try clear hfz19_1
         try clear hfz19_2
         try clear hfz19_3
         try clear hfz21_0
         try clear hfz21_1
         try clear hfz21_2
         try clear hfz21_3
         try clear hfz24_0
         try clear hfz24_1
         try clear hfz24_2
         try clear hfz24_3
         try clear hfz8_0
         try clear hfz8_1
         try clear hfz8_2
         try clear hfz8_3
         try clear p2
         obtain ⟨x9_3, x36_3, rfl, rfl, HA, HK3, HO_255003, BK254, HB⟩ := hrel
         cases gk with
         | zero => exact absurd HA.out (by simp [mul_Norm_nil.l0])
         | succ k3 =>
          have H := HA.out
          clear HA
          simp only [mul_Norm_nil.l0] at H
          by_cases c25 : x36_3 < x255000_13
          rotate_left
          ·
           rw [if_neg c25] at H
           have c25b0 : decide (x36_3 < x255000_13) = false := decide_eq_false c25
           clear c25
           simp only [Option.some.injEq, Prod.mk.injEq] at H
           obtain ⟨rfl, rfl⟩ := H
           go_wp2
           go_ret2
           exact ⟨er, bes⟩
          rw [if_pos c25] at H
          have c25b0 : decide (x36_3 < x255000_13) = true := decide_eq_true c25
          clear c25
          have H' := Aside0.mk H
          clear H
          have hcz26_0 := bc BK254 0 rfl
          have hcz26_1 := bc BK254 1 rfl
          have hcz26_2 := bc BK254 2 rfl
          have hcz26_3 := bc BK254 3 rfl
          have hfz26_0 := blk_frozen BK254.out 0
          have hfz26_1 := blk_frozen BK254.out 1
          have hfz26_2 := blk_frozen BK254.out 2
          have hfz26_3 := blk_frozen BK254.out 3
          go_wp2
          go_loopg [11, 41] k3 (fun kq v11 v41 w' => ∃ (x11_4 : Int) (x41_4 : Int), v11 = .int .u64 x11_4 ∧ v41 = .int .i64 x41_4 ∧ Aside0 (mul_Norm_nil.l1 kq x9_3 x36_3 x11_4 x255000_13 x36_3 x255001_13 x41_4 x255000_13 x255001_13 x255002_13 x255003_13 = some (r1, r2)) ∧ Aside0 (kq ≤ k3) ∧ Aside0 (Kd.V (Kd.int .u64) 33 w' w.heap.size (fun k_ => (P1_3_ k_ ∨ w.heap.size ≤ k_) ∧ k_ ≠ gb254) u255003 x255003_13) ∧ Aside0 (w'.heap[gb254]? = some (.cells #[.int .i64 x255000_13, .int .i64 x255001_13, .int .i64 x255002_13, u255003] 25 (0, 0))) ∧ Aside0 (Below w.heap.size w w'))
          case atStart => exact ⟨(0), (0), (by first | rfl | (simp; done) | (simp [*]; done)), (by first | rfl | (simp; done) | (simp [*]; done)), H', ⟨Nat.le_refl _⟩, ⟨kv HO_255003⟩, ⟨kb BK254⟩, ⟨bes⟩⟩
          case round =>
           clear H'
           try clear c1
           try clear c2
           try clear p2
           try clear c5
           try clear c5b0
           try clear c5b1
           try clear c7
           try clear c10
           try clear c10b0
           try clear c11
           try clear c13
           try clear c17
           try clear c17b0
           try clear c17b1
           try clear c23
           try clear c23b0
           try clear c23b1
           try clear c25
           try clear c25b0
           try clear hcz15_0
           try clear hcz15_1
           try clear hcz15_2
           try clear hcz15_3
           try clear hcz19_0
           try clear hcz19_1
           try clear hcz19_2
           try clear hcz19_3
           try clear hcz21_0
           try clear hcz21_1
           try clear hcz21_2
           try clear hcz21_3
           try clear hcz24_0
           try clear hcz24_1
           try clear hcz24_2
           try clear hcz24_3
           try clear hcz26_0
           try clear hcz26_1
           try clear hcz26_2
           try clear hcz26_3
           try clear hcz8_0
           try clear hcz8_1
           try clear hcz8_2
           try clear hcz8_3
           try clear hfz15_0
           try clear hfz15_1
           try clear hfz15_2
           try clear hfz15_3
           try clear hfz19_0
           try clear hfz19_1
           try clear hfz19_2
           try clear hfz19_3
           try clear hfz21_0
           try clear hfz21_1
           try clear hfz21_2
           try clear hfz21_3
           try clear hfz24_0
           try clear hfz24_1
           try clear hfz24_2
           try clear hfz24_3
           try clear hfz26_0
           try clear hfz26_1
           try clear hfz26_2
           try clear hfz26_3
           try clear hfz8_0
           try clear hfz8_1
           try clear hfz8_2
           try clear hfz8_3
           try clear p2
           obtain ⟨x11_4, x41_4, rfl, rfl, HA, HK4, HO_255003, BK254, HB⟩ := hrel
           cases gk with
           | zero => exact absurd HA.out (by simp [mul_Norm_nil.l1])
           | succ k4 =>
            have H := HA.out
            clear HA
            simp only [mul_Norm_nil.l1] at H
            by_cases c27 : x41_4 < x255001_13
            rotate_left
            ·
             rw [if_neg c27] at H
             have c27b0 : decide (x41_4 < x255001_13) = false := decide_eq_false c27
             clear c27
             obtain ⟨ji35, hji35⟩ : ∃ j_ : Int, (mx x9_3 x11_4) = j_ := ⟨_, rfl⟩
             replace H : (mul_Norm_nil.l0 k4 ji35 x255000_13 (wrap64 (x36_3 + 1)) x255000_13 x255001_13 x255002_13 x255003_13) = some (r1, r2) := by first | (rw [hji35] at H; exact H) | (simp only [hji35] at H ⊢; exact H)
             have hji35_ : (if x9_3 < x11_4 then x11_4 else x9_3) = ji35 := hji35
             have H' := Aside0.mk H
             clear H
             go_wp2
             go_roundg k4
             case measure => have := HJ5.out; have := HJ13.out; have := HK3.out; have := HK4.out; omega
             case rel => exact ⟨(ji35), (wrap64 (x36_3 + 1)), (by first | rfl | (simp; done) | (simp only [← hji35] <;> (first | rfl | simp)) | (simp [*]; done)), (by first | rfl | (simp; done) | (simp [*]; done)), H', ⟨by have := HJ5.out; have := HJ13.out; have := HK3.out; have := HK4.out; omega⟩, ⟨kv HO_255003⟩, ⟨kb BK254⟩, ⟨bes⟩⟩
            rw [if_pos c27] at H
            have c27b0 : decide (x41_4 < x255001_13) = true := decide_eq_true c27
            clear c27
            obtain ⟨t263, A280, H⟩ := Option.bind_eq_some_iff.mp H
            (try dsimp -simprocs only at H)
            have A28 := Aside0.mk A280
            clear A280
            obtain ⟨t264, A290, H⟩ := Option.bind_eq_some_iff.mp H
            (try dsimp -simprocs only at H)
            have A29 := Aside0.mk A290
            clear A290
            obtain ⟨t265, A300, H⟩ := Option.bind_eq_some_iff.mp H
            (try dsimp -simprocs only at H)
            have A30 := Aside0.mk A300
            clear A300
            have H' := Aside0.mk H
            clear H
            have hcz31_0 := bc BK254 0 rfl
            have hcz31_1 := bc BK254 1 rfl
            have hcz31_2 := bc BK254 2 rfl
            have hcz31_3 := bc BK254 3 rfl
            have hfz31_0 := blk_frozen BK254.out 0
            have hfz31_1 := blk_frozen BK254.out 1
            have hfz31_2 := blk_frozen BK254.out 2
            have hfz31_3 := blk_frozen BK254.out 3
            obtain ⟨Ao32, co32, eo32⟩ := Kd.V_slice HO_255003.out
            subst eo32
            go_wp2_with (first | ((with_reducible refine gate_callee (f := 17) rfl ?_); refine goesL_ (some 50) rfl rfl Try.func17 (by kernel_rfl) rfl #[.agg #[.int .i64 x255000_13, .int .i64 x255001_13, .int .i64 x255002_13, .slice Ao32 x255003_13.length co32], .int .i64 x36_3, .int .i64 x41_4] rfl ga ?_; (with_reducible refine (mat_Matrix_At.calls x255000_13 x255001_13 x255002_13 _ _ x255003_13 x36_3 x41_4 t263 _ ?side1 ?side2 A28.out).mono ?_); (case side1 => exact kvs HO_255003); (case side2 => exact (Kd.V_reads' HO_255003.out).2.1); rintro e w33 ⟨rfl, hb⟩; refine ⟨_, rfl, ?_⟩; refine ax3 (Kd.V_below (kv HO_255003) hb) (bb BK254 hb) (below_step bes hb) ?_; clear HO_255003; clear BK254; clear HB; intro HO_255003 BK254 HB; (try clear hb)) | ((with_reducible refine gate_callee (f := 12) rfl ?_); refine goesL_ (some 51) rfl rfl Try.func12 (by kernel_rfl) rfl #[.int .u64 t263] rfl ga ?_; (with_reducible refine (word_Abs.calls t263 t264 _ A29.out).mono ?_); rintro e w' ⟨rfl, ⟨nd, rfl⟩⟩; refine ⟨_, rfl, ?_⟩) | (go_at_call 19; (with_reducible refine (soft_Calc_Add_nil.calls k4  x11_4 t264 t265 _ A30.out).mono ?_); rintro e w34 ⟨rfl, hb⟩; refine ax3 (Kd.V_below (kv HO_255003) hb) (bb BK254 hb) (below_step bes hb) ?_; clear HO_255003; clear BK254; clear HB; intro HO_255003 BK254 HB; (try clear hb)))
            go_roundg k4
            case measure => have := HJ5.out; have := HJ13.out; have := HK3.out; have := HK4.out; omega
            case rel => exact ⟨(t265), (wrap64 (x41_4 + 1)), (by first | rfl | (simp; done) | (simp [*]; done)), (by first | rfl | (simp; done) | (simp [*]; done)), H', ⟨by have := HJ5.out; have := HJ13.out; have := HK3.out; have := HK4.out; omega⟩, ⟨kv HO_255003⟩, ⟨kb BK254⟩, ⟨bes⟩⟩
    ·
     replace c13 := Bool.eq_false_iff.mpr c13
     subst c13
     rw [if_neg (show ¬ (false = true) by decide)] at H
     simp only [Option.some.injEq, Prod.mk.injEq] at H
     obtain ⟨rfl, rfl⟩ := H
     have hcz36_0 := bc BK254 0 rfl
     have hcz36_1 := bc BK254 1 rfl
     have hcz36_2 := bc BK254 2 rfl
     have hcz36_3 := bc BK254 3 rfl
     have hfz36_0 := blk_frozen BK254.out 0
     have hfz36_1 := blk_frozen BK254.out 1
     have hfz36_2 := blk_frozen BK254.out 2
     have hfz36_3 := blk_frozen BK254.out 3
     go_wp2_with (first | ((with_reducible refine gate_callee (f := 7) rfl ?_); refine goesL_ (some 26) rfl rfl Try.func7 (by kernel_rfl) rfl #[.agg #[.int .i64 a1_0, .int .i64 a1_1, .int .i64 a1_2, .slice A1_3 l1_3.length c1_3]] rfl ga ?_; (with_reducible refine (mat_Matrix_Finite.calls kj5 a1_0 a1_1 a1_2 _ _ l1_3 false _ ?side1 ?side2 A12.out).mono ?_); (case side1 => exact kvs HO_255003); (case side2 => exact (Kd.V_reads' HO_255003.out).2.1); rintro e w37 ⟨rfl, hb⟩; refine ⟨_, rfl, ?_⟩; refine ax3 (Kd.V_below (kv HO_255003) hb) (bb BK254 hb) (below_step bes hb) ?_; clear HO_255003; clear BK254; clear HB; intro HO_255003 BK254 HB; (try clear hb)))
     go_ret2
     exact ⟨er, bes⟩
/-! ### gimballaw11_head: function 5 -/
def gimballaw11_head.f (k : Nat)  : Option (Bool) := (mat_New.f 1 2).bind fun bt266 => ((mat_Matrix_Set.f bt266.1 bt266.2.1 bt266.2.2.1 bt266.2.2.2 0 0 4613937818241073152).bind fun t273 => ((mat_Matrix_Set.f bt266.1 bt266.2.1 bt266.2.2.1 t273 0 1 13840687554816376832).bind fun t274 => ((mul_Norm_nil.f k bt266.1 bt266.2.1 bt266.2.2.1 t274 2).bind fun bt275 => ((mul_Norm_nil.f k bt266.1 bt266.2.1 bt266.2.2.1 t274 3).bind fun bt277 => (if bt275.2 = 0 then (if bt277.2 = 0 then (if bt275.1 = 4617315517961601024 then (some (bt277.1 == 4620693217682128896)) else (some false)) else (some false)) else (some false))))))
theorem gimballaw11_head.mono : ∀ k, LeO (gimballaw11_head.f k ) (gimballaw11_head.f (k + 1) ) := by
 intro  k
 unfold gimballaw11_head.f
 repeat' with_reducible first | apply mul_Norm_nil.mono | exact LeO.refl _ | exact LeO.none _ | refine LeO.ite ?_ ?_ | refine LeO.bind ?_ (fun _ => ?_)
set_option maxHeartbeats 8000000 in
set_option maxRecDepth 100000 in
theorem gimballaw11_head.calls (k : Nat)  (r : Bool) (w : World) (h : gimballaw11_head.f k  = some r) :
  Calls Try.prog 5 #[] w fun e w' => e = .returned (.bool r) ∧ Below w.heap.size w w' := by
 have hu25 := Try.underlying25
 have HB := Aside0.mk (Below.refl w.heap.size w)
 have H : ((mat_New.f 1 2).bind fun bt266 => ((mat_Matrix_Set.f bt266.1 bt266.2.1 bt266.2.2.1 bt266.2.2.2 0 0 4613937818241073152).bind fun t273 => ((mat_Matrix_Set.f bt266.1 bt266.2.1 bt266.2.2.1 t273 0 1 13840687554816376832).bind fun t274 => ((mul_Norm_nil.f k bt266.1 bt266.2.1 bt266.2.2.1 t274 2).bind fun bt275 => ((mul_Norm_nil.f k bt266.1 bt266.2.1 bt266.2.2.1 t274 3).bind fun bt277 => (if bt275.2 = 0 then (if bt277.2 = 0 then (if bt275.1 = 4617315517961601024 then (some (bt277.1 == 4620693217682128896)) else (some false)) else (some false)) else (some false))))))) = some r := h
 clear h
 obtain ⟨⟨t266, t267, t268, t269⟩, A10, H⟩ := Option.bind_eq_some_iff.mp H
 (try dsimp -simprocs only at H)
 have A1 := Aside0.mk A10
 clear A10
 obtain ⟨t273, A20, H⟩ := Option.bind_eq_some_iff.mp H
 (try dsimp -simprocs only at H)
 have A2 := Aside0.mk A20
 clear A20
 obtain ⟨t274, A30, H⟩ := Option.bind_eq_some_iff.mp H
 (try dsimp -simprocs only at H)
 have A3 := Aside0.mk A30
 clear A30
 obtain ⟨⟨t275, t276⟩, A40, H⟩ := Option.bind_eq_some_iff.mp H
 (try dsimp -simprocs only at H)
 have A4 := Aside0.mk A40
 clear A40
 obtain ⟨⟨t277, t278⟩, A50, H⟩ := Option.bind_eq_some_iff.mp H
 (try dsimp -simprocs only at H)
 have A5 := Aside0.mk A50
 clear A50
 by_cases c6 : t276 = 0
 rotate_left
 ·
  rw [if_neg c6] at H
  have c6b0 : (t276 == 0) = false := beq_eq_false_iff_ne.mpr c6
  have c6b1 : (t276 != 0) = true := bne_iff_ne.mpr c6
  obtain rfl := Option.some.inj H
  go_enter Try.func5, Try.ntmps5
  go_wp2_with (first | ((with_reducible refine gate_callee (f := 20) rfl ?_); refine goesL_ (some 6) rfl rfl Try.func20 (by kernel_rfl) rfl #[.int .i64 1, .int .i64 2] rfl ga ?_; (with_reducible refine (mat_New.calls 1 2 t266 t267 t268 t269 _ A1.out).mono ?_); rintro e w48 ⟨v270, rfl, ho0, hb⟩; refine ⟨_, rfl, ?_⟩; refine ax2 (Kd.R_lower ho0 (below_size bel)) (below_step bel hb) ?_; clear HB; intro HO271 HB; (try clear hb); (try clear ho0)) | ((with_reducible refine gate_dst (N := 1) rfl ?_); refine gbox (N := 1) (cs := #[.int .i64 0, .int .i64 0, .int .i64 0, .slice none 0 0]) (t := 25) ?_; intro gb272 hg w49 hbox hb; refine ax5 (Kd.R_below (kr HO271) hb) (below_step bel hb) hbox ((ge hg : w.heap.size ≤ gb272)) ((ge hg : w.heap.size ≤ gb272)) ?_; clear HO271; clear HB; intro HO271 HB BK272 GW272 GE272; clear hb hbox hg; have hcz50_0 := bc BK272 0 rfl; have hcz50_1 := bc BK272 1 rfl; have hcz50_2 := bc BK272 2 rfl; have hcz50_3 := bc BK272 3 rfl; have hfz50_0 := blk_frozen BK272.out 0; have hfz50_1 := blk_frozen BK272.out 1; have hfz50_2 := blk_frozen BK272.out 2; have hfz50_3 := blk_frozen BK272.out 3; obtain ⟨Ao51, co51, eo51⟩ := Kd.R_slice HO271.out; subst eo51) | ((with_reducible refine gate_store (t := 25) (p := 1) rfl ?_); refine store_event (t := 25) (p := 1) (v := ?vo_w52) (w1 := ((((w49.setCell ⟨gb272, 0, none⟩ (.int .i64 t266)).setCell ⟨gb272, 1, none⟩ (.int .i64 t267)).setCell ⟨gb272, 2, none⟩ (.int .i64 t268)).setCell ⟨gb272, 3, none⟩ (.slice Ao51 t269.length co51))) ?hg ?ho ?hn ?hr ?_; (case ho => rfl); (case hg => rfl); (case hn => rfl); (case hr => first | (go_simp; done) | (go_simp; rfl)); intro w52 hw; have n0_ : Aside0 (Kd.R (Kd.int .u64) 33 w52 w.heap.size (fun _ => True) (.slice Ao51 t269.length co51) t269) := ⟨(by rw [hw]; exact (by (with_reducible repeat (first | apply Kd.R_alloc | apply Kd.R_drewN | apply Kd.R_drew)); exact Kd.R_mono (Kd.R_far (p := ⟨gb272, 3, none⟩) (Kd.R_far (p := ⟨gb272, 2, none⟩) (Kd.R_far (p := ⟨gb272, 1, none⟩) (Kd.R_far (p := ⟨gb272, 0, none⟩) (Kd.R_types HO271.out BK272.out (by decide)) (fun _ hk => hk.2) (.int .i64 t266)) (fun _ hk => hk.2) (.int .i64 t267)) (fun _ hk => hk.2) (.int .i64 t268)) (fun _ hk => hk.2) (.slice Ao51 t269.length co51)) (fun _ hk => trivial)))⟩; have n1_ : Aside0 (w52.heap[gb272]? = some (.cells #[.int .i64 t266, .int .i64 t267, .int .i64 t268, .slice Ao51 t269.length co51] 25 (0, 0))) := ⟨(by rw [hw]; exact (bp BK272))⟩; have n2_ : Aside0 (Below w.heap.size w w52) := ⟨(by rw [hw]; exact bes)⟩; clear hw; clear HO271; clear BK272; clear HB; have HO271 := n0_; have BK272 := n1_; have HB := n2_; clear n0_ n1_ n2_; have hcz53_0 := bc BK272 0 rfl; have hcz53_1 := bc BK272 1 rfl; have hcz53_2 := bc BK272 2 rfl; have hcz53_3 := bc BK272 3 rfl; have hfz53_0 := blk_frozen BK272.out 0; have hfz53_1 := blk_frozen BK272.out 1; have hfz53_2 := blk_frozen BK272.out 2; have hfz53_3 := blk_frozen BK272.out 3) | ((with_reducible refine gate_callee (f := 21) rfl ?_); refine goesL_ (some 8) rfl rfl Try.func21 (by kernel_rfl) rfl #[.agg #[.int .i64 t266, .int .i64 t267, .int .i64 t268, .slice Ao51 t269.length co51], .int .i64 0, .int .i64 0, .int .u64 4613937818241073152] rfl ga ?_; (with_reducible refine (mat_Matrix_Set.calls t266 t267 t268 (fun k_ => some k_ = (.slice Ao51 t269.length co51 : Value).ownBlock) (.slice Ao51 t269.length co51) t269 0 0 4613937818241073152 t273 w _ ?side1 ?side2 A2.out).mono ?_); (case side1 => repeat (first | (with_reducible first | exact HB.out | apply below_alloc | apply pw_below_drewN | apply below_drew1 | refine below_set ?_ GE272.out) | exact HB.out)); (case side2 => exact Kd.R_tight rfl HO271.out); rintro e w54 ⟨rfl, hy0, hb, hkp⟩; refine ⟨_, rfl, ?_⟩; refine ax3 (Kd.R_reok rfl hy0 (fun k_ e_ => HO271.out.1 k_ e_)) (blk_kept (kb BK272) hkp (fun hs_ => (fun e_ => (Kd.R_ne HO271.out BK272.out (by decide)) e_) hs_)) hb ?_; clear HO271; clear BK272; clear HB; intro HO271 BK272 HB; (try clear hb); (try clear hkp); (try clear hy0); have hcz55_0 := bc BK272 0 rfl; have hcz55_1 := bc BK272 1 rfl; have hcz55_2 := bc BK272 2 rfl; have hcz55_3 := bc BK272 3 rfl; have hfz55_0 := blk_frozen BK272.out 0; have hfz55_1 := blk_frozen BK272.out 1; have hfz55_2 := blk_frozen BK272.out 2; have hfz55_3 := blk_frozen BK272.out 3) | ((with_reducible refine gate_callee (f := 21) rfl ?_); refine goesL_ (some 10) rfl rfl Try.func21 (by kernel_rfl) rfl #[.agg #[.int .i64 t266, .int .i64 t267, .int .i64 t268, .slice Ao51 t269.length co51], .int .i64 0, .int .i64 1, .int .u64 13840687554816376832] rfl ga ?_; (with_reducible refine (mat_Matrix_Set.calls t266 t267 t268 (fun k_ => some k_ = (.slice Ao51 t269.length co51 : Value).ownBlock) (.slice Ao51 t269.length co51) t273 0 1 13840687554816376832 t274 w _ ?side1 ?side2 A3.out).mono ?_); (case side1 => repeat (first | (with_reducible first | exact HB.out | apply below_alloc | apply pw_below_drewN | apply below_drew1 | refine below_set ?_ GE272.out) | exact HB.out)); (case side2 => exact Kd.R_tight rfl HO271.out); rintro e w56 ⟨rfl, hy0, hb, hkp⟩; refine ⟨_, rfl, ?_⟩; refine ax3 (Kd.R_reok rfl hy0 (fun k_ e_ => HO271.out.1 k_ e_)) (blk_kept (kb BK272) hkp (fun hs_ => (fun e_ => (Kd.R_ne HO271.out BK272.out (by decide)) e_) hs_)) hb ?_; clear HO271; clear BK272; clear HB; intro HO271 BK272 HB; (try clear hb); (try clear hkp); (try clear hy0); have hcz57_0 := bc BK272 0 rfl; have hcz57_1 := bc BK272 1 rfl; have hcz57_2 := bc BK272 2 rfl; have hcz57_3 := bc BK272 3 rfl; have hfz57_0 := blk_frozen BK272.out 0; have hfz57_1 := blk_frozen BK272.out 1; have hfz57_2 := blk_frozen BK272.out 2; have hfz57_3 := blk_frozen BK272.out 3) | ((with_reducible refine gate_callee (f := 22) rfl ?_); refine goesL_ (some 13) rfl rfl Try.func22 (by kernel_rfl) rfl #[.pointer none, .agg #[.int .i64 t266, .int .i64 t267, .int .i64 t268, .slice Ao51 t274.length co51], .int .i64 2] rfl (by (try simp only [List.map_toArray, List.map_cons, List.map_nil]); first | done | (rw [show t274.length = t269.length from (Kd.R_reads' HO271.out).1.symm] <;> rfl) | rfl | (simp only [List.length_drop, List.length_take]; rfl)) ?_; (with_reducible refine (mul_Norm_nil.calls k  t266 t267 t268 (fun k_ => some k_ = (.slice Ao51 t269.length co51 : Value).ownBlock) _ _ t274 2 t275 t276 _ ?side1 A4.out).mono ?_); (case side1 => rw [show t274.length = t269.length from (Kd.R_reads' HO271.out).1.symm]; exact Kd.R_V (Kd.R_tight rfl (Kd.R_types (HO271.out) BK272.out (by decide)))); rintro e w58 ⟨rfl, hb⟩; refine ⟨_, rfl, ?_⟩; refine ax3 (Kd.R_below (kr HO271) hb) (bb BK272 hb) (below_step bes hb) ?_; clear HO271; clear BK272; clear HB; intro HO271 BK272 HB; (try clear hb); have hcz59_0 := bc BK272 0 rfl; have hcz59_1 := bc BK272 1 rfl; have hcz59_2 := bc BK272 2 rfl; have hcz59_3 := bc BK272 3 rfl; have hfz59_0 := blk_frozen BK272.out 0; have hfz59_1 := blk_frozen BK272.out 1; have hfz59_2 := blk_frozen BK272.out 2; have hfz59_3 := blk_frozen BK272.out 3) | ((with_reducible refine gate_callee (f := 22) rfl ?_); refine goesL_ (some 18) rfl rfl Try.func22 (by kernel_rfl) rfl #[.pointer none, .agg #[.int .i64 t266, .int .i64 t267, .int .i64 t268, .slice Ao51 t274.length co51], .int .i64 3] rfl (by (try simp only [List.map_toArray, List.map_cons, List.map_nil]); first | done | (rw [show t274.length = t269.length from (Kd.R_reads' HO271.out).1.symm] <;> rfl) | rfl | (simp only [List.length_drop, List.length_take]; rfl)) ?_; (with_reducible refine (mul_Norm_nil.calls k  t266 t267 t268 (fun k_ => some k_ = (.slice Ao51 t269.length co51 : Value).ownBlock) _ _ t274 3 t277 t278 _ ?side1 A5.out).mono ?_); (case side1 => rw [show t274.length = t269.length from (Kd.R_reads' HO271.out).1.symm]; exact Kd.R_V (Kd.R_tight rfl (Kd.R_types (HO271.out) BK272.out (by decide)))); rintro e w60 ⟨rfl, hb⟩; refine ⟨_, rfl, ?_⟩; refine ax3 (Kd.R_below (kr HO271) hb) (bb BK272 hb) (below_step bes hb) ?_; clear HO271; clear BK272; clear HB; intro HO271 BK272 HB; (try clear hb)))
  go_ret
  exact ⟨er, bes⟩

 rw [if_pos c6] at H
 have c6b0 : (t276 == 0) = true := beq_iff_eq.mpr c6
 have c6b1 : (t276 != 0) = false := bne_eq_false_iff_eq.mpr c6
 clear c6
 by_cases c7 : t278 = 0
 rotate_left
 ·
  rw [if_neg c7] at H
  have c7b0 : (t278 == 0) = false := beq_eq_false_iff_ne.mpr c7
  have c7b1 : (t278 != 0) = true := bne_iff_ne.mpr c7
  obtain rfl := Option.some.inj H
  go_enter Try.func5, Try.ntmps5
  go_wp2_with (first | ((with_reducible refine gate_callee (f := 20) rfl ?_); refine goesL_ (some 6) rfl rfl Try.func20 (by kernel_rfl) rfl #[.int .i64 1, .int .i64 2] rfl ga ?_; (with_reducible refine (mat_New.calls 1 2 t266 t267 t268 t269 _ A1.out).mono ?_); rintro e w35 ⟨v270, rfl, ho0, hb⟩; refine ⟨_, rfl, ?_⟩; refine ax2 (Kd.R_lower ho0 (below_size bel)) (below_step bel hb) ?_; clear HB; intro HO271 HB; (try clear hb); (try clear ho0)) | ((with_reducible refine gate_dst (N := 1) rfl ?_); refine gbox (N := 1) (cs := #[.int .i64 0, .int .i64 0, .int .i64 0, .slice none 0 0]) (t := 25) ?_; intro gb272 hg w36 hbox hb; refine ax5 (Kd.R_below (kr HO271) hb) (below_step bel hb) hbox ((ge hg : w.heap.size ≤ gb272)) ((ge hg : w.heap.size ≤ gb272)) ?_; clear HO271; clear HB; intro HO271 HB BK272 GW272 GE272; clear hb hbox hg; have hcz37_0 := bc BK272 0 rfl; have hcz37_1 := bc BK272 1 rfl; have hcz37_2 := bc BK272 2 rfl; have hcz37_3 := bc BK272 3 rfl; have hfz37_0 := blk_frozen BK272.out 0; have hfz37_1 := blk_frozen BK272.out 1; have hfz37_2 := blk_frozen BK272.out 2; have hfz37_3 := blk_frozen BK272.out 3; obtain ⟨Ao38, co38, eo38⟩ := Kd.R_slice HO271.out; subst eo38) | ((with_reducible refine gate_store (t := 25) (p := 1) rfl ?_); refine store_event (t := 25) (p := 1) (v := ?vo_w39) (w1 := ((((w36.setCell ⟨gb272, 0, none⟩ (.int .i64 t266)).setCell ⟨gb272, 1, none⟩ (.int .i64 t267)).setCell ⟨gb272, 2, none⟩ (.int .i64 t268)).setCell ⟨gb272, 3, none⟩ (.slice Ao38 t269.length co38))) ?hg ?ho ?hn ?hr ?_; (case ho => rfl); (case hg => rfl); (case hn => rfl); (case hr => first | (go_simp; done) | (go_simp; rfl)); intro w39 hw; have n0_ : Aside0 (Kd.R (Kd.int .u64) 33 w39 w.heap.size (fun _ => True) (.slice Ao38 t269.length co38) t269) := ⟨(by rw [hw]; exact (by (with_reducible repeat (first | apply Kd.R_alloc | apply Kd.R_drewN | apply Kd.R_drew)); exact Kd.R_mono (Kd.R_far (p := ⟨gb272, 3, none⟩) (Kd.R_far (p := ⟨gb272, 2, none⟩) (Kd.R_far (p := ⟨gb272, 1, none⟩) (Kd.R_far (p := ⟨gb272, 0, none⟩) (Kd.R_types HO271.out BK272.out (by decide)) (fun _ hk => hk.2) (.int .i64 t266)) (fun _ hk => hk.2) (.int .i64 t267)) (fun _ hk => hk.2) (.int .i64 t268)) (fun _ hk => hk.2) (.slice Ao38 t269.length co38)) (fun _ hk => trivial)))⟩; have n1_ : Aside0 (w39.heap[gb272]? = some (.cells #[.int .i64 t266, .int .i64 t267, .int .i64 t268, .slice Ao38 t269.length co38] 25 (0, 0))) := ⟨(by rw [hw]; exact (bp BK272))⟩; have n2_ : Aside0 (Below w.heap.size w w39) := ⟨(by rw [hw]; exact bes)⟩; clear hw; clear HO271; clear BK272; clear HB; have HO271 := n0_; have BK272 := n1_; have HB := n2_; clear n0_ n1_ n2_; have hcz40_0 := bc BK272 0 rfl; have hcz40_1 := bc BK272 1 rfl; have hcz40_2 := bc BK272 2 rfl; have hcz40_3 := bc BK272 3 rfl; have hfz40_0 := blk_frozen BK272.out 0; have hfz40_1 := blk_frozen BK272.out 1; have hfz40_2 := blk_frozen BK272.out 2; have hfz40_3 := blk_frozen BK272.out 3) | ((with_reducible refine gate_callee (f := 21) rfl ?_); refine goesL_ (some 8) rfl rfl Try.func21 (by kernel_rfl) rfl #[.agg #[.int .i64 t266, .int .i64 t267, .int .i64 t268, .slice Ao38 t269.length co38], .int .i64 0, .int .i64 0, .int .u64 4613937818241073152] rfl ga ?_; (with_reducible refine (mat_Matrix_Set.calls t266 t267 t268 (fun k_ => some k_ = (.slice Ao38 t269.length co38 : Value).ownBlock) (.slice Ao38 t269.length co38) t269 0 0 4613937818241073152 t273 w _ ?side1 ?side2 A2.out).mono ?_); (case side1 => repeat (first | (with_reducible first | exact HB.out | apply below_alloc | apply pw_below_drewN | apply below_drew1 | refine below_set ?_ GE272.out) | exact HB.out)); (case side2 => exact Kd.R_tight rfl HO271.out); rintro e w41 ⟨rfl, hy0, hb, hkp⟩; refine ⟨_, rfl, ?_⟩; refine ax3 (Kd.R_reok rfl hy0 (fun k_ e_ => HO271.out.1 k_ e_)) (blk_kept (kb BK272) hkp (fun hs_ => (fun e_ => (Kd.R_ne HO271.out BK272.out (by decide)) e_) hs_)) hb ?_; clear HO271; clear BK272; clear HB; intro HO271 BK272 HB; (try clear hb); (try clear hkp); (try clear hy0); have hcz42_0 := bc BK272 0 rfl; have hcz42_1 := bc BK272 1 rfl; have hcz42_2 := bc BK272 2 rfl; have hcz42_3 := bc BK272 3 rfl; have hfz42_0 := blk_frozen BK272.out 0; have hfz42_1 := blk_frozen BK272.out 1; have hfz42_2 := blk_frozen BK272.out 2; have hfz42_3 := blk_frozen BK272.out 3) | ((with_reducible refine gate_callee (f := 21) rfl ?_); refine goesL_ (some 10) rfl rfl Try.func21 (by kernel_rfl) rfl #[.agg #[.int .i64 t266, .int .i64 t267, .int .i64 t268, .slice Ao38 t269.length co38], .int .i64 0, .int .i64 1, .int .u64 13840687554816376832] rfl ga ?_; (with_reducible refine (mat_Matrix_Set.calls t266 t267 t268 (fun k_ => some k_ = (.slice Ao38 t269.length co38 : Value).ownBlock) (.slice Ao38 t269.length co38) t273 0 1 13840687554816376832 t274 w _ ?side1 ?side2 A3.out).mono ?_); (case side1 => repeat (first | (with_reducible first | exact HB.out | apply below_alloc | apply pw_below_drewN | apply below_drew1 | refine below_set ?_ GE272.out) | exact HB.out)); (case side2 => exact Kd.R_tight rfl HO271.out); rintro e w43 ⟨rfl, hy0, hb, hkp⟩; refine ⟨_, rfl, ?_⟩; refine ax3 (Kd.R_reok rfl hy0 (fun k_ e_ => HO271.out.1 k_ e_)) (blk_kept (kb BK272) hkp (fun hs_ => (fun e_ => (Kd.R_ne HO271.out BK272.out (by decide)) e_) hs_)) hb ?_; clear HO271; clear BK272; clear HB; intro HO271 BK272 HB; (try clear hb); (try clear hkp); (try clear hy0); have hcz44_0 := bc BK272 0 rfl; have hcz44_1 := bc BK272 1 rfl; have hcz44_2 := bc BK272 2 rfl; have hcz44_3 := bc BK272 3 rfl; have hfz44_0 := blk_frozen BK272.out 0; have hfz44_1 := blk_frozen BK272.out 1; have hfz44_2 := blk_frozen BK272.out 2; have hfz44_3 := blk_frozen BK272.out 3) | ((with_reducible refine gate_callee (f := 22) rfl ?_); refine goesL_ (some 13) rfl rfl Try.func22 (by kernel_rfl) rfl #[.pointer none, .agg #[.int .i64 t266, .int .i64 t267, .int .i64 t268, .slice Ao38 t274.length co38], .int .i64 2] rfl (by (try simp only [List.map_toArray, List.map_cons, List.map_nil]); first | done | (rw [show t274.length = t269.length from (Kd.R_reads' HO271.out).1.symm] <;> rfl) | rfl | (simp only [List.length_drop, List.length_take]; rfl)) ?_; (with_reducible refine (mul_Norm_nil.calls k  t266 t267 t268 (fun k_ => some k_ = (.slice Ao38 t269.length co38 : Value).ownBlock) _ _ t274 2 t275 t276 _ ?side1 A4.out).mono ?_); (case side1 => rw [show t274.length = t269.length from (Kd.R_reads' HO271.out).1.symm]; exact Kd.R_V (Kd.R_tight rfl (Kd.R_types (HO271.out) BK272.out (by decide)))); rintro e w45 ⟨rfl, hb⟩; refine ⟨_, rfl, ?_⟩; refine ax3 (Kd.R_below (kr HO271) hb) (bb BK272 hb) (below_step bes hb) ?_; clear HO271; clear BK272; clear HB; intro HO271 BK272 HB; (try clear hb); have hcz46_0 := bc BK272 0 rfl; have hcz46_1 := bc BK272 1 rfl; have hcz46_2 := bc BK272 2 rfl; have hcz46_3 := bc BK272 3 rfl; have hfz46_0 := blk_frozen BK272.out 0; have hfz46_1 := blk_frozen BK272.out 1; have hfz46_2 := blk_frozen BK272.out 2; have hfz46_3 := blk_frozen BK272.out 3) | ((with_reducible refine gate_callee (f := 22) rfl ?_); refine goesL_ (some 18) rfl rfl Try.func22 (by kernel_rfl) rfl #[.pointer none, .agg #[.int .i64 t266, .int .i64 t267, .int .i64 t268, .slice Ao38 t274.length co38], .int .i64 3] rfl (by (try simp only [List.map_toArray, List.map_cons, List.map_nil]); first | done | (rw [show t274.length = t269.length from (Kd.R_reads' HO271.out).1.symm] <;> rfl) | rfl | (simp only [List.length_drop, List.length_take]; rfl)) ?_; (with_reducible refine (mul_Norm_nil.calls k  t266 t267 t268 (fun k_ => some k_ = (.slice Ao38 t269.length co38 : Value).ownBlock) _ _ t274 3 t277 t278 _ ?side1 A5.out).mono ?_); (case side1 => rw [show t274.length = t269.length from (Kd.R_reads' HO271.out).1.symm]; exact Kd.R_V (Kd.R_tight rfl (Kd.R_types (HO271.out) BK272.out (by decide)))); rintro e w47 ⟨rfl, hb⟩; refine ⟨_, rfl, ?_⟩; refine ax3 (Kd.R_below (kr HO271) hb) (bb BK272 hb) (below_step bes hb) ?_; clear HO271; clear BK272; clear HB; intro HO271 BK272 HB; (try clear hb)))
  go_ret
  exact ⟨er, bes⟩
 rw [if_pos c7] at H
 have c7b0 : (t278 == 0) = true := beq_iff_eq.mpr c7
 have c7b1 : (t278 != 0) = false := bne_eq_false_iff_eq.mpr c7
 clear c7
 by_cases c8 : t275 = 4617315517961601024
 rotate_left
 ·
  rw [if_neg c8] at H
  have c8b0 : (t275 == 4617315517961601024) = false := beq_eq_false_iff_ne.mpr c8
  have c8b1 : (t275 != 4617315517961601024) = true := bne_iff_ne.mpr c8
  obtain rfl := Option.some.inj H
  go_enter Try.func5, Try.ntmps5
  go_wp2_with (first | ((with_reducible refine gate_callee (f := 20) rfl ?_); refine goesL_ (some 6) rfl rfl Try.func20 (by kernel_rfl) rfl #[.int .i64 1, .int .i64 2] rfl ga ?_; (with_reducible refine (mat_New.calls 1 2 t266 t267 t268 t269 _ A1.out).mono ?_); rintro e w22 ⟨v270, rfl, ho0, hb⟩; refine ⟨_, rfl, ?_⟩; refine ax2 (Kd.R_lower ho0 (below_size bel)) (below_step bel hb) ?_; clear HB; intro HO271 HB; (try clear hb); (try clear ho0)) | ((with_reducible refine gate_dst (N := 1) rfl ?_); refine gbox (N := 1) (cs := #[.int .i64 0, .int .i64 0, .int .i64 0, .slice none 0 0]) (t := 25) ?_; intro gb272 hg w23 hbox hb; refine ax5 (Kd.R_below (kr HO271) hb) (below_step bel hb) hbox ((ge hg : w.heap.size ≤ gb272)) ((ge hg : w.heap.size ≤ gb272)) ?_; clear HO271; clear HB; intro HO271 HB BK272 GW272 GE272; clear hb hbox hg; have hcz24_0 := bc BK272 0 rfl; have hcz24_1 := bc BK272 1 rfl; have hcz24_2 := bc BK272 2 rfl; have hcz24_3 := bc BK272 3 rfl; have hfz24_0 := blk_frozen BK272.out 0; have hfz24_1 := blk_frozen BK272.out 1; have hfz24_2 := blk_frozen BK272.out 2; have hfz24_3 := blk_frozen BK272.out 3; obtain ⟨Ao25, co25, eo25⟩ := Kd.R_slice HO271.out; subst eo25) | ((with_reducible refine gate_store (t := 25) (p := 1) rfl ?_); refine store_event (t := 25) (p := 1) (v := ?vo_w26) (w1 := ((((w23.setCell ⟨gb272, 0, none⟩ (.int .i64 t266)).setCell ⟨gb272, 1, none⟩ (.int .i64 t267)).setCell ⟨gb272, 2, none⟩ (.int .i64 t268)).setCell ⟨gb272, 3, none⟩ (.slice Ao25 t269.length co25))) ?hg ?ho ?hn ?hr ?_; (case ho => rfl); (case hg => rfl); (case hn => rfl); (case hr => first | (go_simp; done) | (go_simp; rfl)); intro w26 hw; have n0_ : Aside0 (Kd.R (Kd.int .u64) 33 w26 w.heap.size (fun _ => True) (.slice Ao25 t269.length co25) t269) := ⟨(by rw [hw]; exact (by (with_reducible repeat (first | apply Kd.R_alloc | apply Kd.R_drewN | apply Kd.R_drew)); exact Kd.R_mono (Kd.R_far (p := ⟨gb272, 3, none⟩) (Kd.R_far (p := ⟨gb272, 2, none⟩) (Kd.R_far (p := ⟨gb272, 1, none⟩) (Kd.R_far (p := ⟨gb272, 0, none⟩) (Kd.R_types HO271.out BK272.out (by decide)) (fun _ hk => hk.2) (.int .i64 t266)) (fun _ hk => hk.2) (.int .i64 t267)) (fun _ hk => hk.2) (.int .i64 t268)) (fun _ hk => hk.2) (.slice Ao25 t269.length co25)) (fun _ hk => trivial)))⟩; have n1_ : Aside0 (w26.heap[gb272]? = some (.cells #[.int .i64 t266, .int .i64 t267, .int .i64 t268, .slice Ao25 t269.length co25] 25 (0, 0))) := ⟨(by rw [hw]; exact (bp BK272))⟩; have n2_ : Aside0 (Below w.heap.size w w26) := ⟨(by rw [hw]; exact bes)⟩; clear hw; clear HO271; clear BK272; clear HB; have HO271 := n0_; have BK272 := n1_; have HB := n2_; clear n0_ n1_ n2_; have hcz27_0 := bc BK272 0 rfl; have hcz27_1 := bc BK272 1 rfl; have hcz27_2 := bc BK272 2 rfl; have hcz27_3 := bc BK272 3 rfl; have hfz27_0 := blk_frozen BK272.out 0; have hfz27_1 := blk_frozen BK272.out 1; have hfz27_2 := blk_frozen BK272.out 2; have hfz27_3 := blk_frozen BK272.out 3) | ((with_reducible refine gate_callee (f := 21) rfl ?_); refine goesL_ (some 8) rfl rfl Try.func21 (by kernel_rfl) rfl #[.agg #[.int .i64 t266, .int .i64 t267, .int .i64 t268, .slice Ao25 t269.length co25], .int .i64 0, .int .i64 0, .int .u64 4613937818241073152] rfl ga ?_; (with_reducible refine (mat_Matrix_Set.calls t266 t267 t268 (fun k_ => some k_ = (.slice Ao25 t269.length co25 : Value).ownBlock) (.slice Ao25 t269.length co25) t269 0 0 4613937818241073152 t273 w _ ?side1 ?side2 A2.out).mono ?_); (case side1 => repeat (first | (with_reducible first | exact HB.out | apply below_alloc | apply pw_below_drewN | apply below_drew1 | refine below_set ?_ GE272.out) | exact HB.out)); (case side2 => exact Kd.R_tight rfl HO271.out); rintro e w28 ⟨rfl, hy0, hb, hkp⟩; refine ⟨_, rfl, ?_⟩; refine ax3 (Kd.R_reok rfl hy0 (fun k_ e_ => HO271.out.1 k_ e_)) (blk_kept (kb BK272) hkp (fun hs_ => (fun e_ => (Kd.R_ne HO271.out BK272.out (by decide)) e_) hs_)) hb ?_; clear HO271; clear BK272; clear HB; intro HO271 BK272 HB; (try clear hb); (try clear hkp); (try clear hy0); have hcz29_0 := bc BK272 0 rfl; have hcz29_1 := bc BK272 1 rfl; have hcz29_2 := bc BK272 2 rfl; have hcz29_3 := bc BK272 3 rfl; have hfz29_0 := blk_frozen BK272.out 0; have hfz29_1 := blk_frozen BK272.out 1; have hfz29_2 := blk_frozen BK272.out 2; have hfz29_3 := blk_frozen BK272.out 3) | ((with_reducible refine gate_callee (f := 21) rfl ?_); refine goesL_ (some 10) rfl rfl Try.func21 (by kernel_rfl) rfl #[.agg #[.int .i64 t266, .int .i64 t267, .int .i64 t268, .slice Ao25 t269.length co25], .int .i64 0, .int .i64 1, .int .u64 13840687554816376832] rfl ga ?_; (with_reducible refine (mat_Matrix_Set.calls t266 t267 t268 (fun k_ => some k_ = (.slice Ao25 t269.length co25 : Value).ownBlock) (.slice Ao25 t269.length co25) t273 0 1 13840687554816376832 t274 w _ ?side1 ?side2 A3.out).mono ?_); (case side1 => repeat (first | (with_reducible first | exact HB.out | apply below_alloc | apply pw_below_drewN | apply below_drew1 | refine below_set ?_ GE272.out) | exact HB.out)); (case side2 => exact Kd.R_tight rfl HO271.out); rintro e w30 ⟨rfl, hy0, hb, hkp⟩; refine ⟨_, rfl, ?_⟩; refine ax3 (Kd.R_reok rfl hy0 (fun k_ e_ => HO271.out.1 k_ e_)) (blk_kept (kb BK272) hkp (fun hs_ => (fun e_ => (Kd.R_ne HO271.out BK272.out (by decide)) e_) hs_)) hb ?_; clear HO271; clear BK272; clear HB; intro HO271 BK272 HB; (try clear hb); (try clear hkp); (try clear hy0); have hcz31_0 := bc BK272 0 rfl; have hcz31_1 := bc BK272 1 rfl; have hcz31_2 := bc BK272 2 rfl; have hcz31_3 := bc BK272 3 rfl; have hfz31_0 := blk_frozen BK272.out 0; have hfz31_1 := blk_frozen BK272.out 1; have hfz31_2 := blk_frozen BK272.out 2; have hfz31_3 := blk_frozen BK272.out 3) | ((with_reducible refine gate_callee (f := 22) rfl ?_); refine goesL_ (some 13) rfl rfl Try.func22 (by kernel_rfl) rfl #[.pointer none, .agg #[.int .i64 t266, .int .i64 t267, .int .i64 t268, .slice Ao25 t274.length co25], .int .i64 2] rfl (by (try simp only [List.map_toArray, List.map_cons, List.map_nil]); first | done | (rw [show t274.length = t269.length from (Kd.R_reads' HO271.out).1.symm] <;> rfl) | rfl | (simp only [List.length_drop, List.length_take]; rfl)) ?_; (with_reducible refine (mul_Norm_nil.calls k  t266 t267 t268 (fun k_ => some k_ = (.slice Ao25 t269.length co25 : Value).ownBlock) _ _ t274 2 t275 t276 _ ?side1 A4.out).mono ?_); (case side1 => rw [show t274.length = t269.length from (Kd.R_reads' HO271.out).1.symm]; exact Kd.R_V (Kd.R_tight rfl (Kd.R_types (HO271.out) BK272.out (by decide)))); rintro e w32 ⟨rfl, hb⟩; refine ⟨_, rfl, ?_⟩; refine ax3 (Kd.R_below (kr HO271) hb) (bb BK272 hb) (below_step bes hb) ?_; clear HO271; clear BK272; clear HB; intro HO271 BK272 HB; (try clear hb); have hcz33_0 := bc BK272 0 rfl; have hcz33_1 := bc BK272 1 rfl; have hcz33_2 := bc BK272 2 rfl; have hcz33_3 := bc BK272 3 rfl; have hfz33_0 := blk_frozen BK272.out 0; have hfz33_1 := blk_frozen BK272.out 1; have hfz33_2 := blk_frozen BK272.out 2; have hfz33_3 := blk_frozen BK272.out 3) | ((with_reducible refine gate_callee (f := 22) rfl ?_); refine goesL_ (some 18) rfl rfl Try.func22 (by kernel_rfl) rfl #[.pointer none, .agg #[.int .i64 t266, .int .i64 t267, .int .i64 t268, .slice Ao25 t274.length co25], .int .i64 3] rfl (by (try simp only [List.map_toArray, List.map_cons, List.map_nil]); first | done | (rw [show t274.length = t269.length from (Kd.R_reads' HO271.out).1.symm] <;> rfl) | rfl | (simp only [List.length_drop, List.length_take]; rfl)) ?_; (with_reducible refine (mul_Norm_nil.calls k  t266 t267 t268 (fun k_ => some k_ = (.slice Ao25 t269.length co25 : Value).ownBlock) _ _ t274 3 t277 t278 _ ?side1 A5.out).mono ?_); (case side1 => rw [show t274.length = t269.length from (Kd.R_reads' HO271.out).1.symm]; exact Kd.R_V (Kd.R_tight rfl (Kd.R_types (HO271.out) BK272.out (by decide)))); rintro e w34 ⟨rfl, hb⟩; refine ⟨_, rfl, ?_⟩; refine ax3 (Kd.R_below (kr HO271) hb) (bb BK272 hb) (below_step bes hb) ?_; clear HO271; clear BK272; clear HB; intro HO271 BK272 HB; (try clear hb)))
  go_ret
  exact ⟨er, bes⟩
 rw [if_pos c8] at H
 have c8b0 : (t275 == 4617315517961601024) = true := beq_iff_eq.mpr c8
 have c8b1 : (t275 != 4617315517961601024) = false := bne_eq_false_iff_eq.mpr c8
 clear c8
 obtain rfl := Option.some.inj H
 go_enter Try.func5, Try.ntmps5
 go_wp2_with (first | ((with_reducible refine gate_callee (f := 20) rfl ?_); refine goesL_ (some 6) rfl rfl Try.func20 (by kernel_rfl) rfl #[.int .i64 1, .int .i64 2] rfl ga ?_; (with_reducible refine (mat_New.calls 1 2 t266 t267 t268 t269 _ A1.out).mono ?_); rintro e w9 ⟨v270, rfl, ho0, hb⟩; refine ⟨_, rfl, ?_⟩; refine ax2 (Kd.R_lower ho0 (below_size bel)) (below_step bel hb) ?_; clear HB; intro HO271 HB; (try clear hb); (try clear ho0)) | ((with_reducible refine gate_dst (N := 1) rfl ?_); refine gbox (N := 1) (cs := #[.int .i64 0, .int .i64 0, .int .i64 0, .slice none 0 0]) (t := 25) ?_; intro gb272 hg w10 hbox hb; refine ax5 (Kd.R_below (kr HO271) hb) (below_step bel hb) hbox ((ge hg : w.heap.size ≤ gb272)) ((ge hg : w.heap.size ≤ gb272)) ?_; clear HO271; clear HB; intro HO271 HB BK272 GW272 GE272; clear hb hbox hg; have hcz11_0 := bc BK272 0 rfl; have hcz11_1 := bc BK272 1 rfl; have hcz11_2 := bc BK272 2 rfl; have hcz11_3 := bc BK272 3 rfl; have hfz11_0 := blk_frozen BK272.out 0; have hfz11_1 := blk_frozen BK272.out 1; have hfz11_2 := blk_frozen BK272.out 2; have hfz11_3 := blk_frozen BK272.out 3; obtain ⟨Ao12, co12, eo12⟩ := Kd.R_slice HO271.out; subst eo12) | ((with_reducible refine gate_store (t := 25) (p := 1) rfl ?_); refine store_event (t := 25) (p := 1) (v := ?vo_w13) (w1 := ((((w10.setCell ⟨gb272, 0, none⟩ (.int .i64 t266)).setCell ⟨gb272, 1, none⟩ (.int .i64 t267)).setCell ⟨gb272, 2, none⟩ (.int .i64 t268)).setCell ⟨gb272, 3, none⟩ (.slice Ao12 t269.length co12))) ?hg ?ho ?hn ?hr ?_; (case ho => rfl); (case hg => rfl); (case hn => rfl); (case hr => first | (go_simp; done) | (go_simp; rfl)); intro w13 hw; have n0_ : Aside0 (Kd.R (Kd.int .u64) 33 w13 w.heap.size (fun _ => True) (.slice Ao12 t269.length co12) t269) := ⟨(by rw [hw]; exact (by (with_reducible repeat (first | apply Kd.R_alloc | apply Kd.R_drewN | apply Kd.R_drew)); exact Kd.R_mono (Kd.R_far (p := ⟨gb272, 3, none⟩) (Kd.R_far (p := ⟨gb272, 2, none⟩) (Kd.R_far (p := ⟨gb272, 1, none⟩) (Kd.R_far (p := ⟨gb272, 0, none⟩) (Kd.R_types HO271.out BK272.out (by decide)) (fun _ hk => hk.2) (.int .i64 t266)) (fun _ hk => hk.2) (.int .i64 t267)) (fun _ hk => hk.2) (.int .i64 t268)) (fun _ hk => hk.2) (.slice Ao12 t269.length co12)) (fun _ hk => trivial)))⟩; have n1_ : Aside0 (w13.heap[gb272]? = some (.cells #[.int .i64 t266, .int .i64 t267, .int .i64 t268, .slice Ao12 t269.length co12] 25 (0, 0))) := ⟨(by rw [hw]; exact (bp BK272))⟩; have n2_ : Aside0 (Below w.heap.size w w13) := ⟨(by rw [hw]; exact bes)⟩; clear hw; clear HO271; clear BK272; clear HB; have HO271 := n0_; have BK272 := n1_; have HB := n2_; clear n0_ n1_ n2_; have hcz14_0 := bc BK272 0 rfl; have hcz14_1 := bc BK272 1 rfl; have hcz14_2 := bc BK272 2 rfl; have hcz14_3 := bc BK272 3 rfl; have hfz14_0 := blk_frozen BK272.out 0; have hfz14_1 := blk_frozen BK272.out 1; have hfz14_2 := blk_frozen BK272.out 2; have hfz14_3 := blk_frozen BK272.out 3) | ((with_reducible refine gate_callee (f := 21) rfl ?_); refine goesL_ (some 8) rfl rfl Try.func21 (by kernel_rfl) rfl #[.agg #[.int .i64 t266, .int .i64 t267, .int .i64 t268, .slice Ao12 t269.length co12], .int .i64 0, .int .i64 0, .int .u64 4613937818241073152] rfl ga ?_; (with_reducible refine (mat_Matrix_Set.calls t266 t267 t268 (fun k_ => some k_ = (.slice Ao12 t269.length co12 : Value).ownBlock) (.slice Ao12 t269.length co12) t269 0 0 4613937818241073152 t273 w _ ?side1 ?side2 A2.out).mono ?_); (case side1 => repeat (first | (with_reducible first | exact HB.out | apply below_alloc | apply pw_below_drewN | apply below_drew1 | refine below_set ?_ GE272.out) | exact HB.out)); (case side2 => exact Kd.R_tight rfl HO271.out); rintro e w15 ⟨rfl, hy0, hb, hkp⟩; refine ⟨_, rfl, ?_⟩; refine ax3 (Kd.R_reok rfl hy0 (fun k_ e_ => HO271.out.1 k_ e_)) (blk_kept (kb BK272) hkp (fun hs_ => (fun e_ => (Kd.R_ne HO271.out BK272.out (by decide)) e_) hs_)) hb ?_; clear HO271; clear BK272; clear HB; intro HO271 BK272 HB; (try clear hb); (try clear hkp); (try clear hy0); have hcz16_0 := bc BK272 0 rfl; have hcz16_1 := bc BK272 1 rfl; have hcz16_2 := bc BK272 2 rfl; have hcz16_3 := bc BK272 3 rfl; have hfz16_0 := blk_frozen BK272.out 0; have hfz16_1 := blk_frozen BK272.out 1; have hfz16_2 := blk_frozen BK272.out 2; have hfz16_3 := blk_frozen BK272.out 3) | ((with_reducible refine gate_callee (f := 21) rfl ?_); refine goesL_ (some 10) rfl rfl Try.func21 (by kernel_rfl) rfl #[.agg #[.int .i64 t266, .int .i64 t267, .int .i64 t268, .slice Ao12 t269.length co12], .int .i64 0, .int .i64 1, .int .u64 13840687554816376832] rfl ga ?_; (with_reducible refine (mat_Matrix_Set.calls t266 t267 t268 (fun k_ => some k_ = (.slice Ao12 t269.length co12 : Value).ownBlock) (.slice Ao12 t269.length co12) t273 0 1 13840687554816376832 t274 w _ ?side1 ?side2 A3.out).mono ?_); (case side1 => repeat (first | (with_reducible first | exact HB.out | apply below_alloc | apply pw_below_drewN | apply below_drew1 | refine below_set ?_ GE272.out) | exact HB.out)); (case side2 => exact Kd.R_tight rfl HO271.out); rintro e w17 ⟨rfl, hy0, hb, hkp⟩; refine ⟨_, rfl, ?_⟩; refine ax3 (Kd.R_reok rfl hy0 (fun k_ e_ => HO271.out.1 k_ e_)) (blk_kept (kb BK272) hkp (fun hs_ => (fun e_ => (Kd.R_ne HO271.out BK272.out (by decide)) e_) hs_)) hb ?_; clear HO271; clear BK272; clear HB; intro HO271 BK272 HB; (try clear hb); (try clear hkp); (try clear hy0); have hcz18_0 := bc BK272 0 rfl; have hcz18_1 := bc BK272 1 rfl; have hcz18_2 := bc BK272 2 rfl; have hcz18_3 := bc BK272 3 rfl; have hfz18_0 := blk_frozen BK272.out 0; have hfz18_1 := blk_frozen BK272.out 1; have hfz18_2 := blk_frozen BK272.out 2; have hfz18_3 := blk_frozen BK272.out 3) | ((with_reducible refine gate_callee (f := 22) rfl ?_); refine goesL_ (some 13) rfl rfl Try.func22 (by kernel_rfl) rfl #[.pointer none, .agg #[.int .i64 t266, .int .i64 t267, .int .i64 t268, .slice Ao12 t274.length co12], .int .i64 2] rfl (by (try simp only [List.map_toArray, List.map_cons, List.map_nil]); first | done | (rw [show t274.length = t269.length from (Kd.R_reads' HO271.out).1.symm] <;> rfl) | rfl | (simp only [List.length_drop, List.length_take]; rfl)) ?_; (with_reducible refine (mul_Norm_nil.calls k  t266 t267 t268 (fun k_ => some k_ = (.slice Ao12 t269.length co12 : Value).ownBlock) _ _ t274 2 t275 t276 _ ?side1 A4.out).mono ?_); (case side1 => rw [show t274.length = t269.length from (Kd.R_reads' HO271.out).1.symm]; exact Kd.R_V (Kd.R_tight rfl (Kd.R_types (HO271.out) BK272.out (by decide)))); rintro e w19 ⟨rfl, hb⟩; refine ⟨_, rfl, ?_⟩; refine ax3 (Kd.R_below (kr HO271) hb) (bb BK272 hb) (below_step bes hb) ?_; clear HO271; clear BK272; clear HB; intro HO271 BK272 HB; (try clear hb); have hcz20_0 := bc BK272 0 rfl; have hcz20_1 := bc BK272 1 rfl; have hcz20_2 := bc BK272 2 rfl; have hcz20_3 := bc BK272 3 rfl; have hfz20_0 := blk_frozen BK272.out 0; have hfz20_1 := blk_frozen BK272.out 1; have hfz20_2 := blk_frozen BK272.out 2; have hfz20_3 := blk_frozen BK272.out 3) | ((with_reducible refine gate_callee (f := 22) rfl ?_); refine goesL_ (some 18) rfl rfl Try.func22 (by kernel_rfl) rfl #[.pointer none, .agg #[.int .i64 t266, .int .i64 t267, .int .i64 t268, .slice Ao12 t274.length co12], .int .i64 3] rfl (by (try simp only [List.map_toArray, List.map_cons, List.map_nil]); first | done | (rw [show t274.length = t269.length from (Kd.R_reads' HO271.out).1.symm] <;> rfl) | rfl | (simp only [List.length_drop, List.length_take]; rfl)) ?_; (with_reducible refine (mul_Norm_nil.calls k  t266 t267 t268 (fun k_ => some k_ = (.slice Ao12 t269.length co12 : Value).ownBlock) _ _ t274 3 t277 t278 _ ?side1 A5.out).mono ?_); (case side1 => rw [show t274.length = t269.length from (Kd.R_reads' HO271.out).1.symm]; exact Kd.R_V (Kd.R_tight rfl (Kd.R_types (HO271.out) BK272.out (by decide)))); rintro e w21 ⟨rfl, hb⟩; refine ⟨_, rfl, ?_⟩; refine ax3 (Kd.R_below (kr HO271) hb) (bb BK272 hb) (below_step bes hb) ?_; clear HO271; clear BK272; clear HB; intro HO271 BK272 HB; (try clear hb)))
 go_ret
 exact ⟨er, bes⟩
end Go.Proofs.Ytfogmgcpajndcaa.F
