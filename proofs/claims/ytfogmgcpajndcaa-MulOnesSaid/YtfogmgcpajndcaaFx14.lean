-- Written by a program of this seat's session (mkprint), out of the translation.
import Derived.Test.YtfogmgcpajndcaaShort
import Derived.Test.YtfogmgcpajndcaaFx0
import Derived.Test.YtfogmgcpajndcaaFx2
namespace Go.Proofs.Ytfogmgcpajndcaa.F
open Go.RowKit Go.Proofs.YtfogmgcpajndcaaW.PrintWords Go.Proofs.YtfogmgcpajndcaaW.PrintLast Go.Proofs.YtfogmgcpajndcaaW.PrintMore
attribute [local go_sem] max2_int min2_int max_two min_two max_three min_three max_four min_four   -- for this text's walks alone
set_option linter.unusedVariables false
set_option linter.unusedSimpArgs false

/-! ### mat_Matrix_Same: function 11 -/
mutual
def mat_Matrix_Same.j0 : Nat → Bool → Int → Int → Int → List Int → Int → Int → Int → List Int → Option (Bool)
 | 0, _, _, _, _, _, _, _, _, _ => none
 | k + 1, x18, x367000, x367001, x367002, x367003, x368000, x368001, x368002, x368003 => if x18 = true then (some false) else (mat_Matrix_Same.l0 k x367000 0 x367000 x367001 x367002 x367003 x368000 x368001 x368002 x368003)
def mat_Matrix_Same.l0 : Nat → Int → Int → Int → Int → Int → List Int → Int → Int → Int → List Int → Option (Bool)
 | 0, _, _, _, _, _, _, _, _, _, _ => none
 | k + 1, x20, x21, x367000, x367001, x367002, x367003, x368000, x368001, x368002, x368003 => if x21 < x20 then (mat_Matrix_Same.l1 k x21 x20 x21 x367001 0 x367000 x367001 x367002 x367003 x368000 x368001 x368002 x368003) else (some true)
def mat_Matrix_Same.l1 : Nat → Int → Int → Int → Int → Int → Int → Int → Int → List Int → Int → Int → Int → List Int → Option (Bool)
 | 0, _, _, _, _, _, _, _, _, _, _, _, _, _ => none
 | k + 1, x5, x20, x21, x25, x26, x367000, x367001, x367002, x367003, x368000, x368001, x368002, x368003 => if x26 < x25 then ((mat_Matrix_At.f x367000 x367001 x367002 x367003 x5 x26).bind fun t368 => ((mat_Matrix_At.f x368000 x368001 x368002 x368003 x5 x26).bind fun t369 => (if t368 = t369 then (mat_Matrix_Same.l1 k x5 x20 x21 x25 (wrap64 (x26 + 1)) x367000 x367001 x367002 x367003 x368000 x368001 x368002 x368003) else (some false)))) else (mat_Matrix_Same.l0 k x20 (wrap64 (x21 + 1)) x367000 x367001 x367002 x367003 x368000 x368001 x368002 x368003)
end
def mat_Matrix_Same.f (k : Nat) (a0_0 : Int) (a0_1 : Int) (a0_2 : Int) (l0_3 : List Int) (a1_0 : Int) (a1_1 : Int) (a1_2 : Int) (l1_3 : List Int) : Option (Bool) := if a0_0 = a1_0 then (mat_Matrix_Same.j0 k (a0_1 != a1_1) a0_0 a0_1 a0_2 l0_3 a1_0 a1_1 a1_2 l1_3) else (mat_Matrix_Same.j0 k true a0_0 a0_1 a0_2 l0_3 a1_0 a1_1 a1_2 l1_3)
theorem mat_Matrix_Same.mono_l : ∀ k, (∀ y0 y1 y2 y3 y4 y5 y6 y7 y8, LeO (mat_Matrix_Same.j0 k y0 y1 y2 y3 y4 y5 y6 y7 y8) (mat_Matrix_Same.j0 (k + 1) y0 y1 y2 y3 y4 y5 y6 y7 y8)) ∧ (∀ y0 y1 y2 y3 y4 y5 y6 y7 y8 y9, LeO (mat_Matrix_Same.l0 k y0 y1 y2 y3 y4 y5 y6 y7 y8 y9) (mat_Matrix_Same.l0 (k + 1) y0 y1 y2 y3 y4 y5 y6 y7 y8 y9)) ∧ (∀ y0 y1 y2 y3 y4 y5 y6 y7 y8 y9 y10 y11 y12, LeO (mat_Matrix_Same.l1 k y0 y1 y2 y3 y4 y5 y6 y7 y8 y9 y10 y11 y12) (mat_Matrix_Same.l1 (k + 1) y0 y1 y2 y3 y4 y5 y6 y7 y8 y9 y10 y11 y12))
 | 0 => ⟨fun _ _ _ _ _ _ _ _ _ r h => by simp [mat_Matrix_Same.j0] at h, fun _ _ _ _ _ _ _ _ _ _ r h => by simp [mat_Matrix_Same.l0] at h, fun _ _ _ _ _ _ _ _ _ _ _ _ _ r h => by simp [mat_Matrix_Same.l1] at h⟩
 | k + 1 => by
  obtain ⟨ih0, ih1, ih2⟩ := mat_Matrix_Same.mono_l k
  refine ⟨?_, ?_, ?_⟩ <;> intros <;> (first | unfold mat_Matrix_Same.j0 | unfold mat_Matrix_Same.l0 | unfold mat_Matrix_Same.l1) <;>
   repeat' with_reducible first | apply ih0 | apply ih1 | apply ih2 | exact LeO.refl _ | exact LeO.none _ | refine LeO.ite ?_ ?_ | refine LeO.bind ?_ (fun _ => ?_)
theorem mat_Matrix_Same.mono : ∀ a0 a1 a2 a3 a4 a5 a6 a7 k, LeO (mat_Matrix_Same.f k a0 a1 a2 a3 a4 a5 a6 a7) (mat_Matrix_Same.f (k + 1) a0 a1 a2 a3 a4 a5 a6 a7) := by
 intro a0 a1 a2 a3 a4 a5 a6 a7 k
 obtain ⟨ih0, ih1, ih2⟩ := mat_Matrix_Same.mono_l k
 unfold mat_Matrix_Same.f
 repeat' with_reducible first | apply ih0 | apply ih1 | apply ih2 | exact LeO.refl _ | exact LeO.none _ | refine LeO.ite ?_ ?_ | refine LeO.bind ?_ (fun _ => ?_)
def mat_Matrix_Same.T9 : Bool × List (List Nat × List Nat) := (true, [([], []), ([], []), ([], []), ([0, 1, 2], [0, 1, 2]), ([], []), ([], []), ([], []), ([4, 5, 6, 3], [4, 5, 6]), ([3, 7], [3, 7])])
def mat_Matrix_Same.B9 : List Nat := [0, 0, 0, 7, 0, 0, 0, 127, 255]
theorem mat_Matrix_Same.tab9 : rtab .any (opsOf Try.f11 9) = mat_Matrix_Same.T9 := by kernel_rfl
theorem mat_Matrix_Same.bits9 : waitsOk mat_Matrix_Same.T9.2 mat_Matrix_Same.B9 = true := by kernel_rfl
set_option maxHeartbeats 8000000 in
set_option maxRecDepth 100000 in
theorem mat_Matrix_Same.calls (k : Nat) (a0_0 : Int) (a0_1 : Int) (a0_2 : Int) (A0_3 : Option Addr) (c0_3 : Nat) (l0_3 : List Int) (a1_0 : Int) (a1_1 : Int) (a1_2 : Int) (A1_3 : Option Addr) (c1_3 : Nat) (l1_3 : List Int) (r : Bool) (w : World) (hr0_3 : Kd.C (Kd.int .u64) w A0_3 l0_3.length l0_3) (hc0_3 : l0_3.length ≤ c0_3) (hr1_3 : Kd.C (Kd.int .u64) w A1_3 l1_3.length l1_3) (hc1_3 : l1_3.length ≤ c1_3) (h : mat_Matrix_Same.f k a0_0 a0_1 a0_2 l0_3 a1_0 a1_1 a1_2 l1_3 = some r) :
  Calls Try.prog 11 #[.agg #[.int .i64 a0_0, .int .i64 a0_1, .int .i64 a0_2, .slice A0_3 l0_3.length c0_3], .agg #[.int .i64 a1_0, .int .i64 a1_1, .int .i64 a1_2, .slice A1_3 l1_3.length c1_3]] w fun e w' => e = .returned (.bool r) ∧ Below w.heap.size w w' := by
 have hu25 := Try.underlying25
 have HR0_3 := Aside0.mk hr0_3
 have HC0_3 := Aside0.mk hc0_3
 clear hr0_3 hc0_3
 have HR1_3 := Aside0.mk hr1_3
 have HC1_3 := Aside0.mk hc1_3
 clear hr1_3 hc1_3
 have HB := Aside0.mk (Below.refl w.heap.size w)
 have H : (if a0_0 = a1_0 then (mat_Matrix_Same.j0 k (a0_1 != a1_1) a0_0 a0_1 a0_2 l0_3 a1_0 a1_1 a1_2 l1_3) else (mat_Matrix_Same.j0 k true a0_0 a0_1 a0_2 l0_3 a1_0 a1_1 a1_2 l1_3)) = some r := h
 clear h
 have HC3 := Aside0.mk H
 clear H
 go_enter Try.func11, Try.ntmps11
 go_upto_region 1 with (first | ((with_reducible refine gate_dst (N := 2) rfl ?_); refine gbox (N := 2) (cs := #[.int .i64 a0_0, .int .i64 a0_1, .int .i64 a0_2, .slice A0_3 l0_3.length c0_3]) (t := 25) ?_; intro gb366 hg w4 hbox hb; refine ax4 (below_step bel hb) hbox ((ge hg : w.heap.size ≤ gb366)) ((ge hg : w.heap.size ≤ gb366)) ?_; clear HB; intro HB BK366 GW366 GE366; clear hb hbox hg) | ((with_reducible refine gate_dst (N := 3) rfl ?_); refine gbox (N := 3) (cs := #[.int .i64 a1_0, .int .i64 a1_1, .int .i64 a1_2, .slice A1_3 l1_3.length c1_3]) (t := 25) ?_; intro gb367 hg w5 hbox hb; refine ax7 (bb BK366 hb) (below_step bes hb) hbox ((ge hg : w.heap.size ≤ gb367)) ((ge hg : w.heap.size ≤ gb367)) (nl hg BK366) (ng hg BK366) ?_; clear BK366; clear HB; intro BK366 HB BK367 GW367 GE367 NB366_367 NB367_366; clear hb hbox hg))
 (try simp only [Act.put, sa0, sa1, sa2])
 go_cut [18] (fun v18 wc => ∃ (kq : Nat) (x18_2 : Bool), v18 = .bool x18_2 ∧ Aside0 (mat_Matrix_Same.j0 kq x18_2 a0_0 a0_1 a0_2 l0_3 a1_0 a1_1 a1_2 l1_3 = some r) ∧ Aside0 (kq ≤ k) ∧ Aside0 (wc.heap[gb366]? = some (.cells #[.int .i64 a0_0, .int .i64 a0_1, .int .i64 a0_2, (.slice A0_3 l0_3.length c0_3)] 25 (0, 0))) ∧ Aside0 (wc.heap[gb367]? = some (.cells #[.int .i64 a1_0, .int .i64 a1_1, .int .i64 a1_2, (.slice A1_3 l1_3.length c1_3)] 25 (0, 0))) ∧ Aside0 (Below w.heap.size w wc))
 case first =>
  have H := HC3.out
  clear HC3
  by_cases c6 : a0_0 = a1_0
  ·
   rw [if_pos c6] at H
   have c6b0 : (a0_0 == a1_0) = true := beq_iff_eq.mpr c6
   have c6b1 : (a0_0 != a1_0) = false := bne_eq_false_iff_eq.mpr c6
   clear c6
   (first | rw [c6b0] | (simp only [i64_w, i32_w]; rw [c6b0]) | skip)
   have H' := Aside0.mk H
   clear H
   have hnb7 := NB366_367.out
   have hnc7 := NB367_366.out
   have hcz8_0 := bc BK366 0 rfl
   have hcz8_1 := bc BK366 1 rfl
   have hcz8_2 := bc BK366 2 rfl
   have hcz8_3 := bc BK366 3 rfl
   have hfz8_0 := blk_frozen BK366.out 0
   have hfz8_1 := blk_frozen BK366.out 1
   have hfz8_2 := blk_frozen BK366.out 2
   have hfz8_3 := blk_frozen BK366.out 3
   have hcz9_0 := bc BK367 0 rfl
   have hcz9_1 := bc BK367 1 rfl
   have hcz9_2 := bc BK367 2 rfl
   have hcz9_3 := bc BK367 3 rfl
   have hfz9_0 := blk_frozen BK367.out 0
   have hfz9_1 := blk_frozen BK367.out 1
   have hfz9_2 := blk_frozen BK367.out 2
   have hfz9_3 := blk_frozen BK367.out 3
   go_wp2
   go_meet
   case rel => exact ⟨_, ((a0_1 != a1_1)), (by first | rfl | (simp; done) | (simp [*]; done)), H', ⟨by first | omega | exact Nat.le_refl _⟩, ⟨kb BK366⟩, ⟨kb BK367⟩, ⟨bes⟩⟩
  ·
   rw [if_neg c6] at H
   have c6b0 : (a0_0 == a1_0) = false := beq_eq_false_iff_ne.mpr c6
   have c6b1 : (a0_0 != a1_0) = true := bne_iff_ne.mpr c6
   (first | rw [c6b0] | (simp only [i64_w, i32_w]; rw [c6b0]) | skip)
   have H' := Aside0.mk H
   clear H
   have hnb10 := NB366_367.out
   have hnc10 := NB367_366.out
   have hcz11_0 := bc BK366 0 rfl
   have hcz11_1 := bc BK366 1 rfl
   have hcz11_2 := bc BK366 2 rfl
   have hcz11_3 := bc BK366 3 rfl
   have hfz11_0 := blk_frozen BK366.out 0
   have hfz11_1 := blk_frozen BK366.out 1
   have hfz11_2 := blk_frozen BK366.out 2
   have hfz11_3 := blk_frozen BK366.out 3
   have hcz12_0 := bc BK367 0 rfl
   have hcz12_1 := bc BK367 1 rfl
   have hcz12_2 := bc BK367 2 rfl
   have hcz12_3 := bc BK367 3 rfl
   have hfz12_0 := blk_frozen BK367.out 0
   have hfz12_1 := blk_frozen BK367.out 1
   have hfz12_2 := blk_frozen BK367.out 2
   have hfz12_3 := blk_frozen BK367.out 3
   go_wp2
   go_meet
   case rel => exact ⟨_, (true), (by first | rfl | (simp; done) | (simp [*]; done)), H', ⟨by first | omega | exact Nat.le_refl _⟩, ⟨kb BK366⟩, ⟨kb BK367⟩, ⟨bes⟩⟩
 case rest =>
  clear HC3
  try clear c1
  try clear p2
  try clear c6
  try clear c6b0
  try clear c6b1
  try clear c7
  try clear c10
  try clear c11
  try clear hcz11_0
  try clear hcz11_1
  try clear hcz11_2
  try clear hcz11_3
  try clear hcz12_0
  try clear hcz12_1
  try clear hcz12_2
  try clear hcz12_3
  try clear hcz8_0
  try clear hcz8_1
  try clear hcz8_2
  try clear hcz8_3
  try clear hcz9_0
  try clear hcz9_1
  try clear hcz9_2
  try clear hcz9_3
  try clear hfz11_0
  try clear hfz11_1
  try clear hfz11_2
  try clear hfz11_3
  try clear hfz12_0
  try clear hfz12_1
  try clear hfz12_2
  try clear hfz12_3
  try clear hfz8_0
  try clear hfz8_1
  try clear hfz8_2
  try clear hfz8_3
  try clear hfz9_0
  try clear hfz9_1
  try clear hfz9_2
  try clear hfz9_3
  obtain ⟨kq, x18_2, rfl, HA, HJ2, BK366, BK367, HB⟩ := hcut
  cases kq with
  | zero => exact absurd HA.out (by simp [mat_Matrix_Same.j0])
  | succ kj2 =>
   have H := HA.out
   clear HA
   simp only [mat_Matrix_Same.j0] at H
   by_cases c13 : x18_2 = true
   ·
    subst c13
    rw [if_pos rfl] at H
    obtain rfl := Option.some.inj H
    go_wp2
    go_ret
    exact ⟨er, bes⟩
   ·
    replace c13 := Bool.eq_false_iff.mpr c13
    subst c13
    rw [if_neg (show ¬ (false = true) by decide)] at H
    have H' := Aside0.mk H
    clear H
    have hnb14 := NB366_367.out
    have hnc14 := NB367_366.out
    have hcz15_0 := bc BK366 0 rfl
    have hcz15_1 := bc BK366 1 rfl
    have hcz15_2 := bc BK366 2 rfl
    have hcz15_3 := bc BK366 3 rfl
    have hfz15_0 := blk_frozen BK366.out 0
    have hfz15_1 := blk_frozen BK366.out 1
    have hfz15_2 := blk_frozen BK366.out 2
    have hfz15_3 := blk_frozen BK366.out 3
    go_wp2
    go_loopg [21] kj2 (fun kq v21 w' => ∃ (x21_2 : Int), v21 = .int .i64 x21_2 ∧ Aside0 (mat_Matrix_Same.l0 kq a0_0 x21_2 a0_0 a0_1 a0_2 l0_3 a1_0 a1_1 a1_2 l1_3 = some r) ∧ Aside0 (kq ≤ kj2) ∧ Aside0 (w'.heap[gb366]? = some (.cells #[.int .i64 a0_0, .int .i64 a0_1, .int .i64 a0_2, (.slice A0_3 l0_3.length c0_3)] 25 (0, 0))) ∧ Aside0 (w'.heap[gb367]? = some (.cells #[.int .i64 a1_0, .int .i64 a1_1, .int .i64 a1_2, (.slice A1_3 l1_3.length c1_3)] 25 (0, 0))) ∧ Aside0 (Below w.heap.size w w'))
    case atStart => exact ⟨(0), (by first | rfl | (simp; done) | (simp [*]; done)), H', ⟨Nat.le_refl _⟩, ⟨kb BK366⟩, ⟨kb BK367⟩, ⟨bes⟩⟩
    case round =>
     clear H'
     try clear c1
     try clear p2
     try clear c6
     try clear c6b0
     try clear c6b1
     try clear c7
     try clear c10
     try clear c11
     try clear c13
     try clear c14
     try clear hcz11_0
     try clear hcz11_1
     try clear hcz11_2
     try clear hcz11_3
     try clear hcz12_0
     try clear hcz12_1
     try clear hcz12_2
     try clear hcz12_3
     try clear hcz15_0
     try clear hcz15_1
     try clear hcz15_2
     try clear hcz15_3
     try clear hcz8_0
     try clear hcz8_1
     try clear hcz8_2
     try clear hcz8_3
     try clear hcz9_0
     try clear hcz9_1
     try clear hcz9_2
     try clear hcz9_3
     try clear hfz11_0
     try clear hfz11_1
     try clear hfz11_2
     try clear hfz11_3
     try clear hfz12_0
     try clear hfz12_1
     try clear hfz12_2
     try clear hfz12_3
     try clear hfz15_0
     try clear hfz15_1
     try clear hfz15_2
     try clear hfz15_3
     try clear hfz8_0
     try clear hfz8_1
     try clear hfz8_2
     try clear hfz8_3
     try clear hfz9_0
     try clear hfz9_1
     try clear hfz9_2
     try clear hfz9_3
     try clear p2
     obtain ⟨x21_2, rfl, HA, HK2, BK366, BK367, HB⟩ := hrel
     cases gk with
     | zero => exact absurd HA.out (by simp [mat_Matrix_Same.l0])
     | succ k2 =>
      have H := HA.out
      clear HA
      simp only [mat_Matrix_Same.l0] at H
      by_cases c16 : x21_2 < a0_0
      rotate_left
      ·
       rw [if_neg c16] at H
       have c16b0 : decide (x21_2 < a0_0) = false := decide_eq_false c16
       clear c16
       obtain rfl := Option.some.inj H
       go_wp2
       go_ret
       exact ⟨er, bes⟩

      rw [if_pos c16] at H
      have c16b0 : decide (x21_2 < a0_0) = true := decide_eq_true c16
      clear c16
      have H' := Aside0.mk H
      clear H
      have hnb17 := NB366_367.out
      have hnc17 := NB367_366.out
      have hcz18_0 := bc BK366 0 rfl
      have hcz18_1 := bc BK366 1 rfl
      have hcz18_2 := bc BK366 2 rfl
      have hcz18_3 := bc BK366 3 rfl
      have hfz18_0 := blk_frozen BK366.out 0
      have hfz18_1 := blk_frozen BK366.out 1
      have hfz18_2 := blk_frozen BK366.out 2
      have hfz18_3 := blk_frozen BK366.out 3
      go_wp2
      go_loopg [26] k2 (fun kq v26 w' => ∃ (x26_3 : Int), v26 = .int .i64 x26_3 ∧ Aside0 (mat_Matrix_Same.l1 kq x21_2 a0_0 x21_2 a0_1 x26_3 a0_0 a0_1 a0_2 l0_3 a1_0 a1_1 a1_2 l1_3 = some r) ∧ Aside0 (kq ≤ k2) ∧ Aside0 (w'.heap[gb366]? = some (.cells #[.int .i64 a0_0, .int .i64 a0_1, .int .i64 a0_2, (.slice A0_3 l0_3.length c0_3)] 25 (0, 0))) ∧ Aside0 (w'.heap[gb367]? = some (.cells #[.int .i64 a1_0, .int .i64 a1_1, .int .i64 a1_2, (.slice A1_3 l1_3.length c1_3)] 25 (0, 0))) ∧ Aside0 (Below w.heap.size w w'))
      case atStart => exact ⟨(0), (by first | rfl | (simp; done) | (simp [*]; done)), H', ⟨Nat.le_refl _⟩, ⟨kb BK366⟩, ⟨kb BK367⟩, ⟨bes⟩⟩
      case round =>
       clear H'
       try clear c1
       try clear p2
       try clear c6
       try clear c6b0
       try clear c6b1
       try clear c7
       try clear c10
       try clear c11
       try clear c13
       try clear c14
       try clear c16
       try clear c16b0
       try clear c17
       try clear hcz11_0
       try clear hcz11_1
       try clear hcz11_2
       try clear hcz11_3
       try clear hcz12_0
       try clear hcz12_1
       try clear hcz12_2
       try clear hcz12_3
       try clear hcz15_0
       try clear hcz15_1
       try clear hcz15_2
       try clear hcz15_3
       try clear hcz18_0
       try clear hcz18_1
       try clear hcz18_2
       try clear hcz18_3
       try clear hcz8_0
       try clear hcz8_1
       try clear hcz8_2
       try clear hcz8_3
       try clear hcz9_0
       try clear hcz9_1
       try clear hcz9_2
       try clear hcz9_3
       try clear hfz11_0
       try clear hfz11_1
       try clear hfz11_2
       try clear hfz11_3
       try clear hfz12_0
       try clear hfz12_1
       try clear hfz12_2
       try clear hfz12_3
       try clear hfz15_0
       try clear hfz15_1
       try clear hfz15_2
       try clear hfz15_3
       try clear hfz18_0
       try clear hfz18_1
       try clear hfz18_2
       try clear hfz18_3
       try clear hfz8_0
       try clear hfz8_1
       try clear hfz8_2
       try clear hfz8_3
       try clear hfz9_0
       try clear hfz9_1
       try clear hfz9_2
       try clear hfz9_3
       try clear p2
       obtain ⟨x26_3, rfl, HA, HK3, BK366, BK367, HB⟩ := hrel
       cases gk with
       | zero => exact absurd HA.out (by simp [mat_Matrix_Same.l1])
       | succ k3 =>
        have H := HA.out
        clear HA
        simp only [mat_Matrix_Same.l1] at H
        by_cases c19 : x26_3 < a0_1
        rotate_left
        ·
         rw [if_neg c19] at H
         have c19b0 : decide (x26_3 < a0_1) = false := decide_eq_false c19
         clear c19
         have H' := Aside0.mk H
         clear H
         go_wp2
         go_roundg k3
         case measure => have := HJ2.out; have := HK2.out; have := HK3.out; omega
         case rel => exact ⟨(wrap64 (x21_2 + 1)), (by first | rfl | (simp; done) | (simp [*]; done)), H', ⟨by have := HJ2.out; have := HK2.out; have := HK3.out; omega⟩, ⟨kb BK366⟩, ⟨kb BK367⟩, ⟨bes⟩⟩
        rw [if_pos c19] at H
        have c19b0 : decide (x26_3 < a0_1) = true := decide_eq_true c19
        clear c19
        obtain ⟨t368, A200, H⟩ := Option.bind_eq_some_iff.mp H
        (try dsimp -simprocs only at H)
        have A20 := Aside0.mk A200
        clear A200
        obtain ⟨t369, A210, H⟩ := Option.bind_eq_some_iff.mp H
        (try dsimp -simprocs only at H)
        have A21 := Aside0.mk A210
        clear A210
        by_cases c22 : t368 = t369
        ·
         rw [if_pos c22] at H
         have c22b0 : (t368 == t369) = true := beq_iff_eq.mpr c22
         have c22b1 : (t368 != t369) = false := bne_eq_false_iff_eq.mpr c22
         clear c22
         have H' := Aside0.mk H
         clear H
         try go_wp2
         refine ax3 (blk_drew BK366.out) (blk_drew BK367.out) (below_drew1 HB.out) ?_
         clear BK366 BK367 HB
         intro BK366 BK367 HB
         refine start_ (n := 9) (S := fun w' => w'.cell? ⟨gb366, 0, none⟩ = some (.int .i64 a0_0) ∧ w'.cell? ⟨gb366, 1, none⟩ = some (.int .i64 a0_1) ∧ w'.cell? ⟨gb366, 2, none⟩ = some (.int .i64 a0_2) ∧ w'.cell? ⟨gb366, 3, none⟩ = some (.slice A0_3 l0_3.length c0_3) ∧ w'.cell? ⟨gb367, 0, none⟩ = some (.int .i64 a1_0) ∧ w'.cell? ⟨gb367, 1, none⟩ = some (.int .i64 a1_1) ∧ w'.cell? ⟨gb367, 2, none⟩ = some (.int .i64 a1_2) ∧ w'.cell? ⟨gb367, 3, none⟩ = some (.slice A1_3 l1_3.length c1_3)) (ds := []) #[false, false, false, false, false, false, false, false, false] (by kernel_rfl) rfl rfl ⟨bk BK366 0, bk BK366 1, bk BK366 2, bk BK366 3, bk BK367 0, bk BK367 1, bk BK367 2, bk BK367 3⟩ (fun hHeld => ?_); refine with_tabW mat_Matrix_Same.tab9 mat_Matrix_Same.bits9 (fun HT_ HW_ => ?_)
         generalize wr.drew = w23 at BK366 BK367 HB hHeld ⊢
         refine pu 1 30 (lm 9 2) HT_ ?_
         refine pu 2 31 (lm 9 6) HT_ ?_
         refine pu 5 34 (lm 9 38) HT_ ?_
         refine pu 6 35 (lm 9 102) HT_ ?_
         refine ta 0 29 (lm 9 103) HT_ HW_ hHeld ?_
         refine ta 4 33 (lm 9 119) HT_ HW_ hHeld ?_
         refine on 3 (some 32) (lm 9 127) HT_ (fun K hK => ?_)
         refine goes_ Try.func17 (by kernel_rfl) rfl #[.agg #[.int .i64 a0_0, .int .i64 a0_1, .int .i64 a0_2, .slice A0_3 l0_3.length c0_3], .int .i64 x21_2, .int .i64 x26_3] (by rfl) rfl rfl ga ?_
         with_reducible refine (mat_Matrix_At.calls a0_0 a0_1 a0_2 _ _ l0_3 x21_2 x26_3 t368 _ ?side1 ?side2 A20.out).mono ?_
         (case side1 => repeat (first | exact (Kd.C_below HR0_3.out HB.out) | (with_reducible refine Kd.C_alloc ?_ _) | (with_reducible refine Kd.C_drewN ?_ _) | (with_reducible refine Kd.C_drew ?_)))
         (case side2 => exact HC0_3.out)
         rintro e w24 ⟨rfl, hb⟩
         refine ⟨_, rfl, ?_⟩
         refine ax3 (bb BK366 hb) (bb BK367 hb) (below_step bes hb) ?_
         clear BK366 BK367 HB
         intro BK366 BK367 HB
         (try clear hb)
         (try clear hb2)
         (try clear hk)
         (try clear hi)
         refine hK.out _ _ ⟨bk BK366 0, bk BK366 1, bk BK366 2, bk BK366 3, bk BK367 0, bk BK367 1, bk BK367 2, bk BK367 3⟩ (fun hHeld => ?_)
         clear hK K
         refine no 32 ?_
         refine on 7 (some 36) (lm 9 255) HT_ (fun K hK => ?_)
         refine goes_ Try.func17 (by kernel_rfl) rfl #[.agg #[.int .i64 a1_0, .int .i64 a1_1, .int .i64 a1_2, .slice A1_3 l1_3.length c1_3], .int .i64 x21_2, .int .i64 x26_3] (by rfl) rfl rfl ga ?_
         with_reducible refine (mat_Matrix_At.calls a1_0 a1_1 a1_2 _ _ l1_3 x21_2 x26_3 t369 _ ?side1 ?side2 A21.out).mono ?_
         (case side1 => repeat (first | exact (Kd.C_below HR1_3.out HB.out) | (with_reducible refine Kd.C_alloc ?_ _) | (with_reducible refine Kd.C_drewN ?_ _) | (with_reducible refine Kd.C_drew ?_)))
         (case side2 => exact HC1_3.out)
         rintro e w25 ⟨rfl, hb⟩
         refine ⟨_, rfl, ?_⟩
         refine ax3 (bb BK366 hb) (bb BK367 hb) (below_step bes hb) ?_
         clear BK366 BK367 HB
         intro BK366 BK367 HB
         (try clear hb)
         (try clear hb2)
         (try clear hk)
         (try clear hi)
         refine hK.out _ _ ⟨bk BK366 0, bk BK366 1, bk BK366 2, bk BK366 3, bk BK367 0, bk BK367 1, bk BK367 2, bk BK367 3⟩ (fun hHeld => ?_)
         clear hK K
         refine no 36 ?_
         refine pu 8 37 (lm 9 511) HT_ ?_
         refine done_ (done_of HT_.out (by kernel_rfl)) ?_
         try go_wp2
         go_roundg k3
         case measure => have := HJ2.out; have := HK2.out; have := HK3.out; omega
         case rel => exact ⟨(wrap64 (x26_3 + 1)), (by first | rfl | (simp; done) | (simp [*]; done)), H', ⟨by have := HJ2.out; have := HK2.out; have := HK3.out; omega⟩, ⟨kb BK366⟩, ⟨kb BK367⟩, ⟨bes⟩⟩
        ·
         rw [if_neg c22] at H
         have c22b0 : (t368 == t369) = false := beq_eq_false_iff_ne.mpr c22
         have c22b1 : (t368 != t369) = true := bne_iff_ne.mpr c22
         obtain rfl := Option.some.inj H
         try go_wp2
         refine ax3 (blk_drew BK366.out) (blk_drew BK367.out) (below_drew1 HB.out) ?_
         clear BK366 BK367 HB
         intro BK366 BK367 HB
         refine start_ (n := 9) (S := fun w' => w'.cell? ⟨gb366, 0, none⟩ = some (.int .i64 a0_0) ∧ w'.cell? ⟨gb366, 1, none⟩ = some (.int .i64 a0_1) ∧ w'.cell? ⟨gb366, 2, none⟩ = some (.int .i64 a0_2) ∧ w'.cell? ⟨gb366, 3, none⟩ = some (.slice A0_3 l0_3.length c0_3) ∧ w'.cell? ⟨gb367, 0, none⟩ = some (.int .i64 a1_0) ∧ w'.cell? ⟨gb367, 1, none⟩ = some (.int .i64 a1_1) ∧ w'.cell? ⟨gb367, 2, none⟩ = some (.int .i64 a1_2) ∧ w'.cell? ⟨gb367, 3, none⟩ = some (.slice A1_3 l1_3.length c1_3)) (ds := []) #[false, false, false, false, false, false, false, false, false] (by kernel_rfl) rfl rfl ⟨bk BK366 0, bk BK366 1, bk BK366 2, bk BK366 3, bk BK367 0, bk BK367 1, bk BK367 2, bk BK367 3⟩ (fun hHeld => ?_); refine with_tabW mat_Matrix_Same.tab9 mat_Matrix_Same.bits9 (fun HT_ HW_ => ?_)
         generalize wr.drew = w26 at BK366 BK367 HB hHeld ⊢
         refine pu 1 30 (lm 9 2) HT_ ?_
         refine pu 2 31 (lm 9 6) HT_ ?_
         refine pu 5 34 (lm 9 38) HT_ ?_
         refine pu 6 35 (lm 9 102) HT_ ?_
         refine ta 0 29 (lm 9 103) HT_ HW_ hHeld ?_
         refine ta 4 33 (lm 9 119) HT_ HW_ hHeld ?_
         refine on 3 (some 32) (lm 9 127) HT_ (fun K hK => ?_)
         refine goes_ Try.func17 (by kernel_rfl) rfl #[.agg #[.int .i64 a0_0, .int .i64 a0_1, .int .i64 a0_2, .slice A0_3 l0_3.length c0_3], .int .i64 x21_2, .int .i64 x26_3] (by rfl) rfl rfl ga ?_
         with_reducible refine (mat_Matrix_At.calls a0_0 a0_1 a0_2 _ _ l0_3 x21_2 x26_3 t368 _ ?side1 ?side2 A20.out).mono ?_
         (case side1 => repeat (first | exact (Kd.C_below HR0_3.out HB.out) | (with_reducible refine Kd.C_alloc ?_ _) | (with_reducible refine Kd.C_drewN ?_ _) | (with_reducible refine Kd.C_drew ?_)))
         (case side2 => exact HC0_3.out)
         rintro e w27 ⟨rfl, hb⟩
         refine ⟨_, rfl, ?_⟩
         refine ax3 (bb BK366 hb) (bb BK367 hb) (below_step bes hb) ?_
         clear BK366 BK367 HB
         intro BK366 BK367 HB
         (try clear hb)
         (try clear hb2)
         (try clear hk)
         (try clear hi)
         refine hK.out _ _ ⟨bk BK366 0, bk BK366 1, bk BK366 2, bk BK366 3, bk BK367 0, bk BK367 1, bk BK367 2, bk BK367 3⟩ (fun hHeld => ?_)
         clear hK K
         refine no 32 ?_
         refine on 7 (some 36) (lm 9 255) HT_ (fun K hK => ?_)
         refine goes_ Try.func17 (by kernel_rfl) rfl #[.agg #[.int .i64 a1_0, .int .i64 a1_1, .int .i64 a1_2, .slice A1_3 l1_3.length c1_3], .int .i64 x21_2, .int .i64 x26_3] (by rfl) rfl rfl ga ?_
         with_reducible refine (mat_Matrix_At.calls a1_0 a1_1 a1_2 _ _ l1_3 x21_2 x26_3 t369 _ ?side1 ?side2 A21.out).mono ?_
         (case side1 => repeat (first | exact (Kd.C_below HR1_3.out HB.out) | (with_reducible refine Kd.C_alloc ?_ _) | (with_reducible refine Kd.C_drewN ?_ _) | (with_reducible refine Kd.C_drew ?_)))
         (case side2 => exact HC1_3.out)
         rintro e w28 ⟨rfl, hb⟩
         refine ⟨_, rfl, ?_⟩
         refine ax3 (bb BK366 hb) (bb BK367 hb) (below_step bes hb) ?_
         clear BK366 BK367 HB
         intro BK366 BK367 HB
         (try clear hb)
         (try clear hb2)
         (try clear hk)
         (try clear hi)
         refine hK.out _ _ ⟨bk BK366 0, bk BK366 1, bk BK366 2, bk BK366 3, bk BK367 0, bk BK367 1, bk BK367 2, bk BK367 3⟩ (fun hHeld => ?_)
         clear hK K
         refine no 36 ?_
         refine pu 8 37 (lm 9 511) HT_ ?_
         refine done_ (done_of HT_.out (by kernel_rfl)) ?_
         try go_wp2
         go_ret
         exact ⟨er, bes⟩
end Go.Proofs.Ytfogmgcpajndcaa.F
