-- Written by a program of this seat's session (mkprint), out of the translation.
import Derived.Test.YtenegelkbfmjkaaShort
import Derived.Test.YtenegelkbfmjkaaFx0
namespace Go.Proofs.Ytenegelkbfmjkaa.F
open Go.RowKit Go.Proofs.YtenegelkbfmjkaaW.PrintWords Go.Proofs.YtenegelkbfmjkaaW.PrintLast Go.Proofs.YtenegelkbfmjkaaW.PrintMore
attribute [local go_sem] max2_int min2_int max_two min_two max_three min_three max_four min_four   -- for this text's walks alone
set_option linter.unusedVariables false
set_option linter.unusedSimpArgs false

/-! ### mat_Matrix_Check: function 12 -/
mutual
def mat_Matrix_Check.j0 : Nat → Bool → Int → Int → Int → List Int → Option (Int)
 | 0, _, _, _, _, _ => none
 | k + 1, x3, x245000, x245001, x245002, x245003 => if x3 = true then (some 4) else (if x245000 = 0 then (mat_Matrix_Check.j1 k true x245000 x245001 x245002 x245003) else (mat_Matrix_Check.j1 k (x245001 == 0) x245000 x245001 x245002 x245003))
def mat_Matrix_Check.j1 : Nat → Bool → Int → Int → Int → List Int → Option (Int)
 | 0, _, _, _, _, _ => none
 | k + 1, x34, x245000, x245001, x245002, x245003 => if x34 = true then (some 0) else (if (wrap64 ((wrap64 ((wrap64 (x245000 - 1)) * x245002)) + x245001)) > (x245003.length : Int) then (some 4) else (some 0))
end
def mat_Matrix_Check.f (k : Nat) (a0_0 : Int) (a0_1 : Int) (a0_2 : Int) (l0_3 : List Int) : Option (Int) := if a0_0 < 0 then (mat_Matrix_Check.j0 k true a0_0 a0_1 a0_2 l0_3) else (if a0_0 > 4096 then (mat_Matrix_Check.j0 k true a0_0 a0_1 a0_2 l0_3) else (if a0_1 < 0 then (mat_Matrix_Check.j0 k true a0_0 a0_1 a0_2 l0_3) else (if a0_1 > 4096 then (mat_Matrix_Check.j0 k true a0_0 a0_1 a0_2 l0_3) else (if a0_2 < a0_1 then (mat_Matrix_Check.j0 k true a0_0 a0_1 a0_2 l0_3) else (mat_Matrix_Check.j0 k (decide (a0_2 > 1099511627776)) a0_0 a0_1 a0_2 l0_3)))))
theorem mat_Matrix_Check.mono_l : ∀ k, (∀ y0 y1 y2 y3 y4, LeO (mat_Matrix_Check.j0 k y0 y1 y2 y3 y4) (mat_Matrix_Check.j0 (k + 1) y0 y1 y2 y3 y4)) ∧ (∀ y0 y1 y2 y3 y4, LeO (mat_Matrix_Check.j1 k y0 y1 y2 y3 y4) (mat_Matrix_Check.j1 (k + 1) y0 y1 y2 y3 y4))
 | 0 => ⟨fun _ _ _ _ _ r h => by simp [mat_Matrix_Check.j0] at h, fun _ _ _ _ _ r h => by simp [mat_Matrix_Check.j1] at h⟩
 | k + 1 => by
  obtain ⟨ih0, ih1⟩ := mat_Matrix_Check.mono_l k
  refine ⟨?_, ?_⟩
  ·
   intro y0 y1 y2 y3 y4
   unfold mat_Matrix_Check.j0
   repeat' first
   | (with_reducible exact ih0 _ _ _ _ _)
   | (with_reducible exact ih1 _ _ _ _ _)
   | (with_reducible exact LeO.refl _)
   | (with_reducible exact LeO.none _)
   | (with_reducible refine LeO.ite ?_ ?_)
   | (with_reducible refine LeO.bind ?_ (fun _ => ?_))
   | exact ih0 _ _ _ _ _
   | exact ih1 _ _ _ _ _
   | exact LeO.none _
   | refine LeO.ite ?_ ?_
   | refine LeO.bind ?_ (fun _ => ?_)
  ·
   intro y0 y1 y2 y3 y4
   unfold mat_Matrix_Check.j1
   repeat' first
   | (with_reducible exact ih0 _ _ _ _ _)
   | (with_reducible exact ih1 _ _ _ _ _)
   | (with_reducible exact LeO.refl _)
   | (with_reducible exact LeO.none _)
   | (with_reducible refine LeO.ite ?_ ?_)
   | (with_reducible refine LeO.bind ?_ (fun _ => ?_))
   | exact ih0 _ _ _ _ _
   | exact ih1 _ _ _ _ _
   | exact LeO.none _
   | refine LeO.ite ?_ ?_
   | refine LeO.bind ?_ (fun _ => ?_)
theorem mat_Matrix_Check.mono : ∀ a0 a1 a2 a3 k, LeO (mat_Matrix_Check.f k a0 a1 a2 a3) (mat_Matrix_Check.f (k + 1) a0 a1 a2 a3) := by
 intro a0 a1 a2 a3 k
 obtain ⟨ih0, ih1⟩ := mat_Matrix_Check.mono_l k
 unfold mat_Matrix_Check.f
 repeat' first
   | (with_reducible exact ih0 _ _ _ _ _)
   | (with_reducible exact ih1 _ _ _ _ _)
   | (with_reducible exact LeO.refl _)
   | (with_reducible exact LeO.none _)
   | (with_reducible refine LeO.ite ?_ ?_)
   | (with_reducible refine LeO.bind ?_ (fun _ => ?_))
   | exact ih0 _ _ _ _ _
   | exact ih1 _ _ _ _ _
   | exact LeO.none _
   | refine LeO.ite ?_ ?_
   | refine LeO.bind ?_ (fun _ => ?_)
set_option maxHeartbeats 8000000 in
set_option maxRecDepth 100000 in
theorem mat_Matrix_Check.calls (k : Nat) (a0_0 : Int) (a0_1 : Int) (a0_2 : Int) (A0_3 : Option Addr) (c0_3 : Nat) (l0_3 : List Int) (r : Int) (w : World) (hr0_3 : Kd.C (Kd.int .u64) w A0_3 l0_3.length l0_3) (hc0_3 : l0_3.length ≤ c0_3) (h : mat_Matrix_Check.f k a0_0 a0_1 a0_2 l0_3 = some r) :
  Calls Try.prog 12 #[.agg #[.int .i64 a0_0, .int .i64 a0_1, .int .i64 a0_2, .slice A0_3 l0_3.length c0_3]] w fun e w' => e = .returned (.int .i64 r) ∧ Below w.heap.size w w' := by
 have hu25 := Try.underlying25
 have HR0_3 := Aside0.mk hr0_3
 have HC0_3 := Aside0.mk hc0_3
 clear hr0_3 hc0_3
 have HB := Aside0.mk (Below.refl w.heap.size w)
 have H : (if a0_0 < 0 then (mat_Matrix_Check.j0 k true a0_0 a0_1 a0_2 l0_3) else (if a0_0 > 4096 then (mat_Matrix_Check.j0 k true a0_0 a0_1 a0_2 l0_3) else (if a0_1 < 0 then (mat_Matrix_Check.j0 k true a0_0 a0_1 a0_2 l0_3) else (if a0_1 > 4096 then (mat_Matrix_Check.j0 k true a0_0 a0_1 a0_2 l0_3) else (if a0_2 < a0_1 then (mat_Matrix_Check.j0 k true a0_0 a0_1 a0_2 l0_3) else (mat_Matrix_Check.j0 k (decide (a0_2 > 1099511627776)) a0_0 a0_1 a0_2 l0_3)))))) = some r := h
 clear h
 have HC2 := Aside0.mk H
 clear H
 go_enter Try.func12, Try.ntmps12
 go_upto_region 1 with (first | ((with_reducible refine gate_dst (N := 1) rfl ?_); refine box_event ?hg (N := 1) ?hd (cs := #[.int .i64 a0_0, .int .i64 a0_1, .int .i64 a0_2, .slice A0_3 l0_3.length c0_3]) (t := 25) ?hr ?_; (case hd => rfl); (case hg => rfl); (case hr => first | (go_simp; done) | (go_simp; rfl)); intro gb244 hg w3 hbox hb; have n0_ := Aside0.mk (below_step bel hb); have n1_ := Aside0.mk (hbox); have n2_ := Aside0.mk ((by rw [hg]; exact (below_size bel) : w.heap.size ≤ gb244)); have n3_ := Aside0.mk ((by rw [hg]; exact (below_size bel) : w.heap.size ≤ gb244)); clear HB; have HB := n0_; have BK244 := n1_; have GW244 := n2_; have GE244 := n3_; clear n0_ n1_ n2_ n3_; clear hb hbox hg))
 (try simp only [Act.put, List.setIfInBounds_toArray, List.set_cons_zero, List.set_cons_succ])
 go_cut [3] (fun v3 wc => ∃ (kq : Nat) (x3_1 : Bool), v3 = .bool x3_1 ∧ Aside0 (mat_Matrix_Check.j0 kq x3_1 a0_0 a0_1 a0_2 l0_3 = some r) ∧ Aside0 (kq ≤ k) ∧ Aside0 (wc.heap[gb244]? = some (.cells #[.int .i64 a0_0, .int .i64 a0_1, .int .i64 a0_2, (.slice A0_3 l0_3.length c0_3)] 25 (0, 0))) ∧ Aside0 (Below w.heap.size w wc))
 case first =>
  have H := HC2.out
  clear HC2
  by_cases c4 : a0_0 < 0
  ·
   rw [if_pos c4] at H
   have c4b0 : decide (a0_0 < 0) = true := decide_eq_true c4
   clear c4
   (first | rw [c4b0] | (simp only [i64_w, i32_w]; rw [c4b0]) | skip)
   have H' := Aside0.mk H
   clear H
   have hcz5_0 : w3.cell? ⟨gb244, 0, none⟩ = some (.int .i64 a0_0) := (blk_cell BK244.out 0).trans rfl
   have hcz5_1 : w3.cell? ⟨gb244, 1, none⟩ = some (.int .i64 a0_1) := (blk_cell BK244.out 1).trans rfl
   have hcz5_2 : w3.cell? ⟨gb244, 2, none⟩ = some (.int .i64 a0_2) := (blk_cell BK244.out 2).trans rfl
   have hcz5_3 : w3.cell? ⟨gb244, 3, none⟩ = some (.slice A0_3 l0_3.length c0_3) := (blk_cell BK244.out 3).trans rfl
   have hfz5_0 := blk_frozen BK244.out 0
   have hfz5_1 := blk_frozen BK244.out 1
   have hfz5_2 := blk_frozen BK244.out 2
   have hfz5_3 := blk_frozen BK244.out 3
   go_wp2
   go_meet
   case rel => exact ⟨_, (true), (by first | rfl | (simp; done) | (simp [*]; done)), H', ⟨by first | omega | exact Nat.le_refl _⟩, ⟨kb BK244⟩, ⟨bes⟩⟩
  ·
   rw [if_neg c4] at H
   have c4b0 : decide (a0_0 < 0) = false := decide_eq_false c4
   clear c4
   (first | rw [c4b0] | (simp only [i64_w, i32_w]; rw [c4b0]) | skip)
   by_cases c6 : a0_0 > 4096
   ·
    rw [if_pos c6] at H
    have c6b0 : decide (4096 < a0_0) = true := decide_eq_true c6
    clear c6
    have H' := Aside0.mk H
    clear H
    have hcz7_0 : w3.cell? ⟨gb244, 0, none⟩ = some (.int .i64 a0_0) := (blk_cell BK244.out 0).trans rfl
    have hcz7_1 : w3.cell? ⟨gb244, 1, none⟩ = some (.int .i64 a0_1) := (blk_cell BK244.out 1).trans rfl
    have hcz7_2 : w3.cell? ⟨gb244, 2, none⟩ = some (.int .i64 a0_2) := (blk_cell BK244.out 2).trans rfl
    have hcz7_3 : w3.cell? ⟨gb244, 3, none⟩ = some (.slice A0_3 l0_3.length c0_3) := (blk_cell BK244.out 3).trans rfl
    have hfz7_0 := blk_frozen BK244.out 0
    have hfz7_1 := blk_frozen BK244.out 1
    have hfz7_2 := blk_frozen BK244.out 2
    have hfz7_3 := blk_frozen BK244.out 3
    go_wp2
    go_meet
    case rel => exact ⟨_, (true), (by first | rfl | (simp; done) | (simp [*]; done)), H', ⟨by first | omega | exact Nat.le_refl _⟩, ⟨kb BK244⟩, ⟨bes⟩⟩
   ·
    rw [if_neg c6] at H
    have c6b0 : decide (4096 < a0_0) = false := decide_eq_false c6
    clear c6
    by_cases c8 : a0_1 < 0
    ·
     rw [if_pos c8] at H
     have c8b0 : decide (a0_1 < 0) = true := decide_eq_true c8
     clear c8
     have H' := Aside0.mk H
     clear H
     have hcz9_0 : w3.cell? ⟨gb244, 0, none⟩ = some (.int .i64 a0_0) := (blk_cell BK244.out 0).trans rfl
     have hcz9_1 : w3.cell? ⟨gb244, 1, none⟩ = some (.int .i64 a0_1) := (blk_cell BK244.out 1).trans rfl
     have hcz9_2 : w3.cell? ⟨gb244, 2, none⟩ = some (.int .i64 a0_2) := (blk_cell BK244.out 2).trans rfl
     have hcz9_3 : w3.cell? ⟨gb244, 3, none⟩ = some (.slice A0_3 l0_3.length c0_3) := (blk_cell BK244.out 3).trans rfl
     have hfz9_0 := blk_frozen BK244.out 0
     have hfz9_1 := blk_frozen BK244.out 1
     have hfz9_2 := blk_frozen BK244.out 2
     have hfz9_3 := blk_frozen BK244.out 3
     go_wp2
     go_meet
     case rel => exact ⟨_, (true), (by first | rfl | (simp; done) | (simp [*]; done)), H', ⟨by first | omega | exact Nat.le_refl _⟩, ⟨kb BK244⟩, ⟨bes⟩⟩
    ·
     rw [if_neg c8] at H
     have c8b0 : decide (a0_1 < 0) = false := decide_eq_false c8
     clear c8
     by_cases c10 : a0_1 > 4096
     ·
      rw [if_pos c10] at H
      have c10b0 : decide (4096 < a0_1) = true := decide_eq_true c10
      clear c10
      have H' := Aside0.mk H
      clear H
      have hcz11_0 : w3.cell? ⟨gb244, 0, none⟩ = some (.int .i64 a0_0) := (blk_cell BK244.out 0).trans rfl
      have hcz11_1 : w3.cell? ⟨gb244, 1, none⟩ = some (.int .i64 a0_1) := (blk_cell BK244.out 1).trans rfl
      have hcz11_2 : w3.cell? ⟨gb244, 2, none⟩ = some (.int .i64 a0_2) := (blk_cell BK244.out 2).trans rfl
      have hcz11_3 : w3.cell? ⟨gb244, 3, none⟩ = some (.slice A0_3 l0_3.length c0_3) := (blk_cell BK244.out 3).trans rfl
      have hfz11_0 := blk_frozen BK244.out 0
      have hfz11_1 := blk_frozen BK244.out 1
      have hfz11_2 := blk_frozen BK244.out 2
      have hfz11_3 := blk_frozen BK244.out 3
      go_wp2
      go_meet
      case rel => exact ⟨_, (true), (by first | rfl | (simp; done) | (simp [*]; done)), H', ⟨by first | omega | exact Nat.le_refl _⟩, ⟨kb BK244⟩, ⟨bes⟩⟩
     ·
      rw [if_neg c10] at H
      have c10b0 : decide (4096 < a0_1) = false := decide_eq_false c10
      clear c10
      by_cases c12 : a0_2 < a0_1
      ·
       rw [if_pos c12] at H
       have c12b0 : decide (a0_2 < a0_1) = true := decide_eq_true c12
       clear c12
       have H' := Aside0.mk H
       clear H
       have hcz13_0 : w3.cell? ⟨gb244, 0, none⟩ = some (.int .i64 a0_0) := (blk_cell BK244.out 0).trans rfl
       have hcz13_1 : w3.cell? ⟨gb244, 1, none⟩ = some (.int .i64 a0_1) := (blk_cell BK244.out 1).trans rfl
       have hcz13_2 : w3.cell? ⟨gb244, 2, none⟩ = some (.int .i64 a0_2) := (blk_cell BK244.out 2).trans rfl
       have hcz13_3 : w3.cell? ⟨gb244, 3, none⟩ = some (.slice A0_3 l0_3.length c0_3) := (blk_cell BK244.out 3).trans rfl
       have hfz13_0 := blk_frozen BK244.out 0
       have hfz13_1 := blk_frozen BK244.out 1
       have hfz13_2 := blk_frozen BK244.out 2
       have hfz13_3 := blk_frozen BK244.out 3
       go_wp2
       go_meet
       case rel => exact ⟨_, (true), (by first | rfl | (simp; done) | (simp [*]; done)), H', ⟨by first | omega | exact Nat.le_refl _⟩, ⟨kb BK244⟩, ⟨bes⟩⟩
      ·
       rw [if_neg c12] at H
       have c12b0 : decide (a0_2 < a0_1) = false := decide_eq_false c12
       clear c12
       have H' := Aside0.mk H
       clear H
       have hcz14_0 : w3.cell? ⟨gb244, 0, none⟩ = some (.int .i64 a0_0) := (blk_cell BK244.out 0).trans rfl
       have hcz14_1 : w3.cell? ⟨gb244, 1, none⟩ = some (.int .i64 a0_1) := (blk_cell BK244.out 1).trans rfl
       have hcz14_2 : w3.cell? ⟨gb244, 2, none⟩ = some (.int .i64 a0_2) := (blk_cell BK244.out 2).trans rfl
       have hcz14_3 : w3.cell? ⟨gb244, 3, none⟩ = some (.slice A0_3 l0_3.length c0_3) := (blk_cell BK244.out 3).trans rfl
       have hfz14_0 := blk_frozen BK244.out 0
       have hfz14_1 := blk_frozen BK244.out 1
       have hfz14_2 := blk_frozen BK244.out 2
       have hfz14_3 := blk_frozen BK244.out 3
       go_wp2
       go_meet
       case rel => exact ⟨_, (decide (a0_2 > 1099511627776)), (by first | rfl | (simp; done) | (simp [*]; done)), H', ⟨by first | omega | exact Nat.le_refl _⟩, ⟨kb BK244⟩, ⟨bes⟩⟩
 case rest =>
  clear HC2
  try clear c1
  try clear p2
  try clear c4
  try clear c4b0
  try clear c6
  try clear c6b0
  try clear c8
  try clear c8b0
  try clear c10
  try clear c10b0
  try clear c12
  try clear c12b0
  try clear hcz11_0
  try clear hcz11_1
  try clear hcz11_2
  try clear hcz11_3
  try clear hcz13_0
  try clear hcz13_1
  try clear hcz13_2
  try clear hcz13_3
  try clear hcz14_0
  try clear hcz14_1
  try clear hcz14_2
  try clear hcz14_3
  try clear hcz5_0
  try clear hcz5_1
  try clear hcz5_2
  try clear hcz5_3
  try clear hcz7_0
  try clear hcz7_1
  try clear hcz7_2
  try clear hcz7_3
  try clear hcz9_0
  try clear hcz9_1
  try clear hcz9_2
  try clear hcz9_3
  try clear hfz11_0
  try clear hfz11_1
  try clear hfz11_2
  try clear hfz11_3
  try clear hfz13_0
  try clear hfz13_1
  try clear hfz13_2
  try clear hfz13_3
  try clear hfz14_0
  try clear hfz14_1
  try clear hfz14_2
  try clear hfz14_3
  try clear hfz5_0
  try clear hfz5_1
  try clear hfz5_2
  try clear hfz5_3
  try clear hfz7_0
  try clear hfz7_1
  try clear hfz7_2
  try clear hfz7_3
  try clear hfz9_0
  try clear hfz9_1
  try clear hfz9_2
  try clear hfz9_3
  obtain ⟨kq, x3_1, rfl, HA, HJ1, BK244, HB⟩ := hcut
  cases kq with
  | zero => exact absurd HA.out (by simp [mat_Matrix_Check.j0])
  | succ kj1 =>
   have H := HA.out
   clear HA
   simp only [mat_Matrix_Check.j0] at H
   by_cases c15 : x3_1 = true
   ·
    subst c15
    rw [if_pos rfl] at H
    obtain rfl := Option.some.inj H
    go_wp2
    go_ret
    exact ⟨er, bes⟩
   ·
    replace c15 := Bool.eq_false_iff.mpr c15
    subst c15
    rw [if_neg (show ¬ (false = true) by decide)] at H
    have HC16 := Aside0.mk H
    clear H
    go_upto_region 3 with (fail)
    go_cut [34] (fun v34 wc => ∃ (kq : Nat) (x34_15 : Bool), v34 = .bool x34_15 ∧ Aside0 (mat_Matrix_Check.j1 kq x34_15 a0_0 a0_1 a0_2 l0_3 = some r) ∧ Aside0 (kq ≤ kj1) ∧ Aside0 (wc.heap[gb244]? = some (.cells #[.int .i64 a0_0, .int .i64 a0_1, .int .i64 a0_2, (.slice A0_3 l0_3.length c0_3)] 25 (0, 0))) ∧ Aside0 (Below w.heap.size w wc))
    case first =>
     have H := HC16.out
     clear HC16
     by_cases c17 : a0_0 = 0
     ·
      rw [if_pos c17] at H
      have c17b0 : (a0_0 == 0) = true := beq_iff_eq.mpr c17
      have c17b1 : (a0_0 != 0) = false := bne_eq_false_iff_eq.mpr c17
      clear c17
      (first | rw [c17b0] | (simp only [i64_w, i32_w]; rw [c17b0]) | skip)
      have H' := Aside0.mk H
      clear H
      have hcz18_0 : wc.cell? ⟨gb244, 0, none⟩ = some (.int .i64 a0_0) := (blk_cell BK244.out 0).trans rfl
      have hcz18_1 : wc.cell? ⟨gb244, 1, none⟩ = some (.int .i64 a0_1) := (blk_cell BK244.out 1).trans rfl
      have hcz18_2 : wc.cell? ⟨gb244, 2, none⟩ = some (.int .i64 a0_2) := (blk_cell BK244.out 2).trans rfl
      have hcz18_3 : wc.cell? ⟨gb244, 3, none⟩ = some (.slice A0_3 l0_3.length c0_3) := (blk_cell BK244.out 3).trans rfl
      have hfz18_0 := blk_frozen BK244.out 0
      have hfz18_1 := blk_frozen BK244.out 1
      have hfz18_2 := blk_frozen BK244.out 2
      have hfz18_3 := blk_frozen BK244.out 3
      go_wp2
      go_meet
      case rel => exact ⟨_, (true), (by first | rfl | (simp; done) | (simp [*]; done)), H', ⟨by have := HJ1.out; first | omega | exact Nat.le_refl _⟩, ⟨kb BK244⟩, ⟨bes⟩⟩
     ·
      rw [if_neg c17] at H
      have c17b0 : (a0_0 == 0) = false := beq_eq_false_iff_ne.mpr c17
      have c17b1 : (a0_0 != 0) = true := bne_iff_ne.mpr c17
      (first | rw [c17b0] | (simp only [i64_w, i32_w]; rw [c17b0]) | skip)
      have H' := Aside0.mk H
      clear H
      have hcz19_0 : wc.cell? ⟨gb244, 0, none⟩ = some (.int .i64 a0_0) := (blk_cell BK244.out 0).trans rfl
      have hcz19_1 : wc.cell? ⟨gb244, 1, none⟩ = some (.int .i64 a0_1) := (blk_cell BK244.out 1).trans rfl
      have hcz19_2 : wc.cell? ⟨gb244, 2, none⟩ = some (.int .i64 a0_2) := (blk_cell BK244.out 2).trans rfl
      have hcz19_3 : wc.cell? ⟨gb244, 3, none⟩ = some (.slice A0_3 l0_3.length c0_3) := (blk_cell BK244.out 3).trans rfl
      have hfz19_0 := blk_frozen BK244.out 0
      have hfz19_1 := blk_frozen BK244.out 1
      have hfz19_2 := blk_frozen BK244.out 2
      have hfz19_3 := blk_frozen BK244.out 3
      go_wp2
      go_meet
      case rel => exact ⟨_, ((a0_1 == 0)), (by first | rfl | (simp; done) | (simp [*]; done)), H', ⟨by have := HJ1.out; first | omega | exact Nat.le_refl _⟩, ⟨kb BK244⟩, ⟨bes⟩⟩
    case rest =>
     clear HC16
     try clear c1
     try clear p2
     try clear c4
     try clear c4b0
     try clear c6
     try clear c6b0
     try clear c8
     try clear c8b0
     try clear c10
     try clear c10b0
     try clear c12
     try clear c12b0
     try clear c15
     try clear c17
     try clear c17b0
     try clear c17b1
     try clear hcz11_0
     try clear hcz11_1
     try clear hcz11_2
     try clear hcz11_3
     try clear hcz13_0
     try clear hcz13_1
     try clear hcz13_2
     try clear hcz13_3
     try clear hcz14_0
     try clear hcz14_1
     try clear hcz14_2
     try clear hcz14_3
     try clear hcz18_0
     try clear hcz18_1
     try clear hcz18_2
     try clear hcz18_3
     try clear hcz19_0
     try clear hcz19_1
     try clear hcz19_2
     try clear hcz19_3
     try clear hcz5_0
     try clear hcz5_1
     try clear hcz5_2
     try clear hcz5_3
     try clear hcz7_0
     try clear hcz7_1
     try clear hcz7_2
     try clear hcz7_3
     try clear hcz9_0
     try clear hcz9_1
     try clear hcz9_2
     try clear hcz9_3
     try clear hfz11_0
     try clear hfz11_1
     try clear hfz11_2
     try clear hfz11_3
     try clear hfz13_0
     try clear hfz13_1
     try clear hfz13_2
     try clear hfz13_3
     try clear hfz14_0
     try clear hfz14_1
     try clear hfz14_2
     try clear hfz14_3
     try clear hfz18_0
     try clear hfz18_1
     try clear hfz18_2
     try clear hfz18_3
     try clear hfz19_0
     try clear hfz19_1
     try clear hfz19_2
     try clear hfz19_3
     try clear hfz5_0
     try clear hfz5_1
     try clear hfz5_2
     try clear hfz5_3
     try clear hfz7_0
     try clear hfz7_1
     try clear hfz7_2
     try clear hfz7_3
     try clear hfz9_0
     try clear hfz9_1
     try clear hfz9_2
     try clear hfz9_3
     try clear p2
     obtain ⟨kq, x34_15, rfl, HA, HJ15, BK244, HB⟩ := hcut
     cases kq with
     | zero => exact absurd HA.out (by simp [mat_Matrix_Check.j1])
     | succ kj15 =>
      have H := HA.out
      clear HA
      simp only [mat_Matrix_Check.j1] at H
      by_cases c20 : x34_15 = true
      ·
       subst c20
       rw [if_pos rfl] at H
       obtain rfl := Option.some.inj H
       go_wp2
       go_ret
       exact ⟨er, bes⟩
      ·
       replace c20 := Bool.eq_false_iff.mpr c20
       subst c20
       rw [if_neg (show ¬ (false = true) by decide)] at H
       by_cases c21 : (wrap64 ((wrap64 ((wrap64 (a0_0 - 1)) * a0_2)) + a0_1)) > (l0_3.length : Int)
       ·
        rw [if_pos c21] at H
        have c21b0 : decide ((l0_3.length : Int) < (wrap64 ((wrap64 ((wrap64 (a0_0 - 1)) * a0_2)) + a0_1))) = true := decide_eq_true c21
        clear c21
        obtain rfl := Option.some.inj H
        have hcz22_0 : wc.cell? ⟨gb244, 0, none⟩ = some (.int .i64 a0_0) := (blk_cell BK244.out 0).trans rfl
        have hcz22_1 : wc.cell? ⟨gb244, 1, none⟩ = some (.int .i64 a0_1) := (blk_cell BK244.out 1).trans rfl
        have hcz22_2 : wc.cell? ⟨gb244, 2, none⟩ = some (.int .i64 a0_2) := (blk_cell BK244.out 2).trans rfl
        have hcz22_3 : wc.cell? ⟨gb244, 3, none⟩ = some (.slice A0_3 l0_3.length c0_3) := (blk_cell BK244.out 3).trans rfl
        have hfz22_0 := blk_frozen BK244.out 0
        have hfz22_1 := blk_frozen BK244.out 1
        have hfz22_2 := blk_frozen BK244.out 2
        have hfz22_3 := blk_frozen BK244.out 3
        go_wp2
        go_ret
        exact ⟨er, bes⟩
       ·
        rw [if_neg c21] at H
        have c21b0 : decide ((l0_3.length : Int) < (wrap64 ((wrap64 ((wrap64 (a0_0 - 1)) * a0_2)) + a0_1))) = false := decide_eq_false c21
        clear c21
        obtain rfl := Option.some.inj H
        have hcz23_0 : wc.cell? ⟨gb244, 0, none⟩ = some (.int .i64 a0_0) := (blk_cell BK244.out 0).trans rfl
        have hcz23_1 : wc.cell? ⟨gb244, 1, none⟩ = some (.int .i64 a0_1) := (blk_cell BK244.out 1).trans rfl
        have hcz23_2 : wc.cell? ⟨gb244, 2, none⟩ = some (.int .i64 a0_2) := (blk_cell BK244.out 2).trans rfl
        have hcz23_3 : wc.cell? ⟨gb244, 3, none⟩ = some (.slice A0_3 l0_3.length c0_3) := (blk_cell BK244.out 3).trans rfl
        have hfz23_0 := blk_frozen BK244.out 0
        have hfz23_1 := blk_frozen BK244.out 1
        have hfz23_2 := blk_frozen BK244.out 2
        have hfz23_3 := blk_frozen BK244.out 3
        go_wp2
        go_ret
        exact ⟨er, bes⟩

end Go.Proofs.Ytenegelkbfmjkaa.F
