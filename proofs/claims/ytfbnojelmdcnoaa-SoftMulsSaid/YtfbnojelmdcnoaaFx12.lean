-- Written by a program of this seat's session (mkprint), out of the translation.
import Derived.Test.YtfbnojelmdcnoaaFx0
import Derived.Test.YtfbnojelmdcnoaaFx2
import Derived.Test.YtfbnojelmdcnoaaFx3
import Derived.Test.YtfbnojelmdcnoaaFx4
namespace Go.Proofs.Ytfbnojelmdcnoaa.F
open Go.RowKit Go.Proofs.YtfbnojelmdcnoaaW.PrintWords Go.Proofs.YtfbnojelmdcnoaaW.PrintLast Go.Proofs.YtfbnojelmdcnoaaW.PrintMore
attribute [local go_sem] max2_int min2_int max_two min_two max_three min_three max_four min_four   -- for this text's walks alone
set_option linter.unusedVariables false
set_option linter.unusedSimpArgs false

/-! ### bits_Mul64: function 70 -/
def bits_Mul64.f (a0 : Int) (a1 : Int) : Option (Int × Int) := some (IntKind.u64.wrap ((IntKind.u64.wrap ((IntKind.u64.wrap ((a0 / 4294967296) * (a1 / 4294967296))) + ((IntKind.u64.wrap ((IntKind.u64.wrap ((a0 / 4294967296) * (Go.bits .and .u64 a1 4294967295))) + ((IntKind.u64.wrap ((Go.bits .and .u64 a0 4294967295) * (Go.bits .and .u64 a1 4294967295))) / 4294967296))) / 4294967296))) + ((IntKind.u64.wrap ((Go.bits .and .u64 (IntKind.u64.wrap ((IntKind.u64.wrap ((a0 / 4294967296) * (Go.bits .and .u64 a1 4294967295))) + ((IntKind.u64.wrap ((Go.bits .and .u64 a0 4294967295) * (Go.bits .and .u64 a1 4294967295))) / 4294967296))) 4294967295) + (IntKind.u64.wrap ((Go.bits .and .u64 a0 4294967295) * (a1 / 4294967296))))) / 4294967296)), IntKind.u64.wrap (a0 * a1))
set_option maxHeartbeats 8000000 in
set_option maxRecDepth 100000 in
theorem bits_Mul64.calls (a0 : Int) (a1 : Int) (r1 : Int) (r2 : Int) (w : World) (h : bits_Mul64.f a0 a1 = some (r1, r2)) :
    Calls Try.prog 70 #[.int .u64 a0, .int .u64 a1] w fun e w' => e = .returned (.tuple #[.int .u64 r1, .int .u64 r2]) ∧ Drawn0 w w' := by
  have H : (some (IntKind.u64.wrap ((IntKind.u64.wrap ((IntKind.u64.wrap ((a0 / 4294967296) * (a1 / 4294967296))) + ((IntKind.u64.wrap ((IntKind.u64.wrap ((a0 / 4294967296) * (Go.bits .and .u64 a1 4294967295))) + ((IntKind.u64.wrap ((Go.bits .and .u64 a0 4294967295) * (Go.bits .and .u64 a1 4294967295))) / 4294967296))) / 4294967296))) + ((IntKind.u64.wrap ((Go.bits .and .u64 (IntKind.u64.wrap ((IntKind.u64.wrap ((a0 / 4294967296) * (Go.bits .and .u64 a1 4294967295))) + ((IntKind.u64.wrap ((Go.bits .and .u64 a0 4294967295) * (Go.bits .and .u64 a1 4294967295))) / 4294967296))) 4294967295) + (IntKind.u64.wrap ((Go.bits .and .u64 a0 4294967295) * (a1 / 4294967296))))) / 4294967296)), IntKind.u64.wrap (a0 * a1))) = some (r1, r2) := h
  clear h
  simp only [Option.some.injEq, Prod.mk.injEq] at H
  obtain ⟨rfl, rfl⟩ := H
  go_enter Try.func70, Try.ntmps70
  go_wp2
  go_ret2
  exact ⟨by first | rfl | (simp; done) | (simp [*]; done), by repeat (first | exact Drawn0.refl _ | apply Drawn0.step)⟩

/-! ### wide_Mul: function 56 -/
def wide_Mul.f (a0 : Int) (a1 : Int) : Option (Int × Int) := (bits_Mul64.f a0 a1).bind fun bt572 => (some (bt572.1, bt572.2))
set_option maxHeartbeats 8000000 in
set_option maxRecDepth 100000 in
theorem wide_Mul.calls (a0 : Int) (a1 : Int) (r1 : Int) (r2 : Int) (w : World) (h : wide_Mul.f a0 a1 = some (r1, r2)) :
    Calls Try.prog 56 #[.int .u64 a0, .int .u64 a1] w fun e w' => e = .returned (.agg #[.int .u64 r1, .int .u64 r2]) ∧ Below w.heap.size w w' := by
  have hu48 := Try.underlying48
  have HB := Aside0.mk (Below.refl w.heap.size w)
  have H : ((bits_Mul64.f a0 a1).bind fun bt572 => (some (bt572.1, bt572.2))) = some (r1, r2) := h
  clear h
  replace H := Option.bind_eq_some_iff.mp H
  obtain ⟨⟨t572, t573⟩, A30, H⟩ := H
  replace H : (some (t572, t573)) = some (r1, r2) := H
  have A3 := Aside0.mk A30
  clear A30
  simp only [Option.some.injEq, Prod.mk.injEq] at H
  obtain ⟨rfl, rfl⟩ := H
  go_enter Try.func56, Try.ntmps56
  go_wp2_with (first | ((with_reducible refine gate_dst (N := 4) rfl ?_); refine box_event ?hg (N := 4) ?hd (cs := #[.int .u64 0, .int .u64 0]) (t := 48) ?hr ?_; (case hd => rfl); (case hg => rfl); (case hr => first | (go_simp; done) | (go_simp; rfl)); intro gb571 hg w4 hbox hb; have n0_ := Aside0.mk (below_step (by repeat (first | (with_reducible first | exact HB.out | apply below_alloc | apply pw_below_drewN | apply below_drew1) | exact HB.out)) hb); have n1_ := Aside0.mk (hbox); have n2_ := Aside0.mk ((by rw [hg]; exact (below_size (by repeat (first | (with_reducible first | exact HB.out | apply below_alloc | apply pw_below_drewN | apply below_drew1) | exact HB.out))) : w.heap.size ≤ gb571)); have n3_ := Aside0.mk ((by rw [hg]; exact (below_size (by repeat (first | (with_reducible first | exact HB.out | apply below_alloc | apply pw_below_drewN | apply below_drew1) | exact HB.out))) : w.heap.size ≤ gb571)); clear HB; have HB := n0_; have BK571 := n1_; have GW571 := n2_; have GE571 := n3_; clear n0_ n1_ n2_ n3_; clear hb hbox hg) | ((with_reducible refine gate_callee (f := 70) rfl ?_); refine goesL_ (some 10) rfl rfl Try.func70 (by kernel_rfl) rfl #[.int .u64 a0, .int .u64 a1] rfl (by (try simp only [List.map_toArray, List.map_cons, List.map_nil]); first | done | rfl | (simp only [List.length_drop, List.length_take]; rfl)) ?_; (with_reducible refine (bits_Mul64.calls a0 a1 t572 t573 _ A3.out).mono ?_); rintro e w' ⟨rfl, ⟨nd, rfl⟩⟩; refine ⟨_, rfl, ?_⟩; (try (rw [drewN_self w4]; generalize hq_ : World.drewN w4 _ = w4; have n0_ : Aside0 (w4.heap[gb571]? = some (.cells #[.int .u64 0, .int .u64 0] 48 (0, 0))) := ⟨by rw [← hq_]; exact (by (with_reducible repeat (first | refine blk_drewN ?_ _ | refine blk_drew ?_ | refine blk_alloc ?_ _)); exact BK571.out)⟩; have n1_ : Aside0 (Below w.heap.size w w4) := ⟨by rw [← hq_]; exact (by repeat (first | (with_reducible first | exact HB.out | apply below_alloc | apply pw_below_drewN | apply below_drew1 | refine below_set ?_ GE571.out) | exact HB.out))⟩; clear BK571 HB hq_; have BK571 := n0_; have HB := n1_; clear n0_ n1_)); have hcz5_0 : w4.cell? ⟨gb571, 0, none⟩ = some (.int .u64 0) := (blk_cell BK571.out 0).trans rfl; have hcz5_1 : w4.cell? ⟨gb571, 1, none⟩ = some (.int .u64 0) := (blk_cell BK571.out 1).trans rfl; have hfz5_0 := blk_frozen BK571.out 0; have hfz5_1 := blk_frozen BK571.out 1))
  refine bodyPost_ret (results_cell_row rfl _ _ gb571 48 #[.int .u64 t572, .int .u64 t573] (0, 0) _ rfl (by (with_reducible repeat (first | refine blk_drewN ?_ _ | refine blk_drew ?_ | refine blk_alloc ?_ _)); refine blk_put (cs := #[.int .u64 t572, .int .u64 0]) ?_ 1 _ rfl; (with_reducible repeat (first | refine blk_drewN ?_ _ | refine blk_drew ?_ | refine blk_alloc ?_ _)); refine blk_put (cs := #[.int .u64 0, .int .u64 0]) ?_ 0 _ rfl; (with_reducible repeat (first | refine blk_drewN ?_ _ | refine blk_drew ?_ | refine blk_alloc ?_ _)); exact BK571.out) Try.underlying48 rfl (by kernel_rfl)) rfl ?_
  exact ⟨by first | rfl | (simp [errW_none, errW_some] <;> rfl) | (simp [*, errW_none, errW_some] <;> rfl), by repeat (first | (with_reducible first | exact HB.out | apply below_alloc | apply pw_below_drewN | apply below_drew1 | refine below_set ?_ GE571.out) | exact HB.out)⟩

/-! ### soft_Mul: function 21 -/
def soft_Mul.j0 : Nat → Int → Int → Bool → Int → Int → Bool → Option (Int × Int)
  | 0, _, _, _, _, _, _ => none
  | k + 1, x0, x1, x9, x10, x11, x36 => if x36 = true then (some (9221120237041090560, 16)) else (if x10 = 4 then ((word_Make.f x9 2047 0).bind fun t584 => (some (t584, 0))) else (if x11 = 4 then ((word_Make.f x9 2047 0).bind fun t585 => (some (t585, 0))) else ((word_Parts.f k x0).bind fun bt586 => ((word_Parts.f k x1).bind fun bt588 => ((wide_Mul.f bt586.1 bt588.1).bind fun bt590 => ((round_Round.f k x9 bt590.1 bt590.2 (wrap64 (bt586.2 + bt588.2)) false).bind fun bt592 => (some (bt592.1, bt592.2))))))))
def soft_Mul.f (k : Nat) (a0 : Int) (a1 : Int) : Option (Int × Int) := (soft_nan.f k (([a0, a1] : List Int))).bind fun bt577 => (if bt577.2.2 = true then (some (bt577.1, bt577.2.1)) else ((word_Neg.f a0).bind fun t580 => ((word_Neg.f a1).bind fun t581 => ((word_Kind.f k a0).bind fun t582 => ((word_Kind.f k a1).bind fun t583 => (if t582 = 4 then (if t583 = 1 then (soft_Mul.j0 k a0 a1 (t580 != t581) t582 t583 true) else (if t582 = 1 then (soft_Mul.j0 k a0 a1 (t580 != t581) t582 t583 (t583 == 4)) else (soft_Mul.j0 k a0 a1 (t580 != t581) t582 t583 false))) else (if t582 = 1 then (soft_Mul.j0 k a0 a1 (t580 != t581) t582 t583 (t583 == 4)) else (soft_Mul.j0 k a0 a1 (t580 != t581) t582 t583 false))))))))
theorem soft_Mul.mono_l : ∀ k, (∀ y0 y1 y2 y3 y4 y5, LeO (soft_Mul.j0 k y0 y1 y2 y3 y4 y5) (soft_Mul.j0 (k + 1) y0 y1 y2 y3 y4 y5))
  | 0 => fun _ _ _ _ _ _ r h => by simp [soft_Mul.j0] at h
  | k + 1 => by
    have ih0 := soft_Mul.mono_l k
    · intro y0 y1 y2 y3 y4 y5
      unfold soft_Mul.j0
      repeat' first
      | (with_reducible exact ih0 _ _ _ _ _ _)
      | (with_reducible exact round_Round.mono _ _ _ _ _ _)
      | (with_reducible exact soft_nan.mono _ _)
      | (with_reducible exact word_Kind.mono _ _)
      | (with_reducible exact word_Parts.mono _ _)
      | (with_reducible exact LeO.refl _)
      | (with_reducible exact LeO.none _)
      | (with_reducible refine LeO.ite ?_ ?_)
      | (with_reducible refine LeO.bind ?_ (fun _ => ?_))
      | exact ih0 _ _ _ _ _ _
      | exact round_Round.mono _ _ _ _ _ _
      | exact soft_nan.mono _ _
      | exact word_Kind.mono _ _
      | exact word_Parts.mono _ _
      | exact LeO.none _
      | refine LeO.ite ?_ ?_
      | refine LeO.bind ?_ (fun _ => ?_)
theorem soft_Mul.mono : ∀ a0 a1 k, LeO (soft_Mul.f k a0 a1) (soft_Mul.f (k + 1) a0 a1) := by
  intro a0 a1 k
  have ih0 := soft_Mul.mono_l k
  unfold soft_Mul.f
  repeat' first
      | (with_reducible exact ih0 _ _ _ _ _ _)
      | (with_reducible exact round_Round.mono _ _ _ _ _ _)
      | (with_reducible exact soft_nan.mono _ _)
      | (with_reducible exact word_Kind.mono _ _)
      | (with_reducible exact word_Parts.mono _ _)
      | (with_reducible exact LeO.refl _)
      | (with_reducible exact LeO.none _)
      | (with_reducible refine LeO.ite ?_ ?_)
      | (with_reducible refine LeO.bind ?_ (fun _ => ?_))
      | exact ih0 _ _ _ _ _ _
      | exact round_Round.mono _ _ _ _ _ _
      | exact soft_nan.mono _ _
      | exact word_Kind.mono _ _
      | exact word_Parts.mono _ _
      | exact LeO.none _
      | refine LeO.ite ?_ ?_
      | refine LeO.bind ?_ (fun _ => ?_)
set_option maxHeartbeats 8000000 in
set_option maxRecDepth 100000 in
theorem soft_Mul.calls (k : Nat) (a0 : Int) (a1 : Int) (r1 : Int) (r2 : Int) (w : World) (h : soft_Mul.f k a0 a1 = some (r1, r2)) :
    Calls Try.prog 21 #[.int .u64 a0, .int .u64 a1] w fun e w' => e = .returned (.tuple #[.int .u64 r1, .int .u8 r2]) ∧ Below w.heap.size w w' := by
  have HB := Aside0.mk (Below.refl w.heap.size w)
  have H : ((soft_nan.f k (([a0, a1] : List Int))).bind fun bt577 => (if bt577.2.2 = true then (some (bt577.1, bt577.2.1)) else ((word_Neg.f a0).bind fun t580 => ((word_Neg.f a1).bind fun t581 => ((word_Kind.f k a0).bind fun t582 => ((word_Kind.f k a1).bind fun t583 => (if t582 = 4 then (if t583 = 1 then (soft_Mul.j0 k a0 a1 (t580 != t581) t582 t583 true) else (if t582 = 1 then (soft_Mul.j0 k a0 a1 (t580 != t581) t582 t583 (t583 == 4)) else (soft_Mul.j0 k a0 a1 (t580 != t581) t582 t583 false))) else (if t582 = 1 then (soft_Mul.j0 k a0 a1 (t580 != t581) t582 t583 (t583 == 4)) else (soft_Mul.j0 k a0 a1 (t580 != t581) t582 t583 false))))))))) = some (r1, r2) := h
  clear h
  obtain ⟨y574, hy574⟩ : ∃ y_ : List Int, y_ = (([a0, a1] : List Int)) := ⟨_, rfl⟩
  replace H : ((soft_nan.f k y574).bind fun bt577 => (if bt577.2.2 = true then (some (bt577.1, bt577.2.1)) else ((word_Neg.f a0).bind fun t580 => ((word_Neg.f a1).bind fun t581 => ((word_Kind.f k a0).bind fun t582 => ((word_Kind.f k a1).bind fun t583 => (if t582 = 4 then (if t583 = 1 then (soft_Mul.j0 k a0 a1 (t580 != t581) t582 t583 true) else (if t582 = 1 then (soft_Mul.j0 k a0 a1 (t580 != t581) t582 t583 (t583 == 4)) else (soft_Mul.j0 k a0 a1 (t580 != t581) t582 t583 false))) else (if t582 = 1 then (soft_Mul.j0 k a0 a1 (t580 != t581) t582 t583 (t583 == 4)) else (soft_Mul.j0 k a0 a1 (t580 != t581) t582 t583 false))))))))) = some (r1, r2) := by first | (rw [hy574]; with_reducible exact H) | (have H2_ := (Option.bind_some _ _).symm.trans H; rw [hy574]; with_reducible exact H2_) | (have H2_ := (Option.bind_some _ _).symm.trans H; with_reducible exact H2_) | with_reducible exact H | (rw [hy574]; exact H) | exact H
  have Ny574 := Aside0.mk hy574
  clear hy574
  replace H := Option.bind_eq_some_iff.mp H
  obtain ⟨⟨t577, t578, t579⟩, A30, H⟩ := H
  replace H : (if t579 = true then (some (t577, t578)) else ((word_Neg.f a0).bind fun t580 => ((word_Neg.f a1).bind fun t581 => ((word_Kind.f k a0).bind fun t582 => ((word_Kind.f k a1).bind fun t583 => (if t582 = 4 then (if t583 = 1 then (soft_Mul.j0 k a0 a1 (t580 != t581) t582 t583 true) else (if t582 = 1 then (soft_Mul.j0 k a0 a1 (t580 != t581) t582 t583 (t583 == 4)) else (soft_Mul.j0 k a0 a1 (t580 != t581) t582 t583 false))) else (if t582 = 1 then (soft_Mul.j0 k a0 a1 (t580 != t581) t582 t583 (t583 == 4)) else (soft_Mul.j0 k a0 a1 (t580 != t581) t582 t583 false)))))))) = some (r1, r2) := H
  have A3 := Aside0.mk A30
  clear A30
  by_cases c4 : t579 = true
  · subst c4
    have H1 : (some (t577, t578)) = some (r1, r2) := by rw [if_pos rfl] at H; exact H
    clear H
    have H := H1
    clear H1
    simp only [Option.some.injEq, Prod.mk.injEq] at H
    obtain ⟨rfl, rfl⟩ := H
    go_enter Try.func21, Try.ntmps21
    go_wp2_with (first | ((with_reducible refine gate_dst (N := 19) rfl ?_); refine Kd.R_lit (Kd.int .u64) _ 22 ?hg (N := 19) ?hd (xs := ([a0, a1] : List Int)) (inner := [.int .u64 a0, .int .u64 a1]) (ok := fun _ => True) (okp := fun _ => True) ?hr ?hp (fun _ hk => hk) trivial (Below.refl _ _) (Nat.le_refl _) (by simp) ?_; (case hd => rfl); (case hg => rfl); (case hr => first | (go_simp; done) | (go_simp; rfl)); (case hp => exact (Reps.one (show Kd.M (Kd.int .u64) _ _ _ a0 [.int .u64 a0] from rfl) (Reps.one (show Kd.M (Kd.int .u64) _ _ _ a1 [.int .u64 a1] from rfl) (Reps.none _ _)))); intro v575 w5 ho6 hb hg_ hnew_; clear hg_ hnew_; (first | rw [← Ny574.out] at ho6 | (simp only [Int.reduceToNat] at ho6; rw [← Ny574.out] at ho6)); have n0_ := Aside0.mk (Kd.R_lower ho6 (below_size (by repeat (first | (with_reducible first | exact HB.out | apply below_alloc | apply pw_below_drewN | apply below_drew1) | exact HB.out)))); have n1_ := Aside0.mk (below_step (by repeat (first | (with_reducible first | exact HB.out | apply below_alloc | apply pw_below_drewN | apply below_drew1) | exact HB.out)) hb); clear HB; have HO576 := n0_; have HB := n1_; clear n0_ n1_; clear hb ho6; obtain ⟨Ao7, co7, eo7⟩ := Kd.R_slice HO576.out; subst eo7) | ((with_reducible refine gate_callee (f := 30) rfl ?_); refine goesL_ (some 20) rfl rfl Try.func30 (by kernel_rfl) rfl #[.slice Ao7 y574.length co7] rfl (by (try simp only [List.map_toArray, List.map_cons, List.map_nil]); first | done | rfl | (simp only [List.length_drop, List.length_take]; rfl)) ?_; (with_reducible refine (soft_nan.calls k _ _ y574 t577 t578 true _ ?side1 ?side2 A3.out).mono ?_); (case side1 => repeat (first | exact (Kd.R_reads' HO576.out).2.2 | (with_reducible refine Kd.C_alloc ?_ _) | (with_reducible refine Kd.C_drewN ?_ _) | (with_reducible refine Kd.C_drew ?_))); (case side2 => exact (Kd.R_reads' HO576.out).2.1); rintro e w' ⟨rfl, ⟨nd, rfl⟩⟩; refine ⟨_, rfl, ?_⟩))
    go_ret2
    exact ⟨by first | rfl | (simp [errW_none, errW_some] <;> rfl) | (simp [*, errW_none, errW_some] <;> rfl), by repeat (first | (with_reducible first | exact HB.out | apply below_alloc | apply pw_below_drewN | apply below_drew1) | exact HB.out)⟩
  · replace c4 := Bool.eq_false_iff.mpr c4
    subst c4
    have H1 : ((word_Neg.f a0).bind fun t580 => ((word_Neg.f a1).bind fun t581 => ((word_Kind.f k a0).bind fun t582 => ((word_Kind.f k a1).bind fun t583 => (if t582 = 4 then (if t583 = 1 then (soft_Mul.j0 k a0 a1 (t580 != t581) t582 t583 true) else (if t582 = 1 then (soft_Mul.j0 k a0 a1 (t580 != t581) t582 t583 (t583 == 4)) else (soft_Mul.j0 k a0 a1 (t580 != t581) t582 t583 false))) else (if t582 = 1 then (soft_Mul.j0 k a0 a1 (t580 != t581) t582 t583 (t583 == 4)) else (soft_Mul.j0 k a0 a1 (t580 != t581) t582 t583 false))))))) = some (r1, r2) := by rw [if_neg (show ¬ (false = true) by decide)] at H; exact H
    clear H
    have H := H1
    clear H1
    replace H := Option.bind_eq_some_iff.mp H
    obtain ⟨t580, A80, H⟩ := H
    replace H : ((word_Neg.f a1).bind fun t581 => ((word_Kind.f k a0).bind fun t582 => ((word_Kind.f k a1).bind fun t583 => (if t582 = 4 then (if t583 = 1 then (soft_Mul.j0 k a0 a1 (t580 != t581) t582 t583 true) else (if t582 = 1 then (soft_Mul.j0 k a0 a1 (t580 != t581) t582 t583 (t583 == 4)) else (soft_Mul.j0 k a0 a1 (t580 != t581) t582 t583 false))) else (if t582 = 1 then (soft_Mul.j0 k a0 a1 (t580 != t581) t582 t583 (t583 == 4)) else (soft_Mul.j0 k a0 a1 (t580 != t581) t582 t583 false)))))) = some (r1, r2) := H
    have A8 := Aside0.mk A80
    clear A80
    replace H := Option.bind_eq_some_iff.mp H
    obtain ⟨t581, A90, H⟩ := H
    replace H : ((word_Kind.f k a0).bind fun t582 => ((word_Kind.f k a1).bind fun t583 => (if t582 = 4 then (if t583 = 1 then (soft_Mul.j0 k a0 a1 (t580 != t581) t582 t583 true) else (if t582 = 1 then (soft_Mul.j0 k a0 a1 (t580 != t581) t582 t583 (t583 == 4)) else (soft_Mul.j0 k a0 a1 (t580 != t581) t582 t583 false))) else (if t582 = 1 then (soft_Mul.j0 k a0 a1 (t580 != t581) t582 t583 (t583 == 4)) else (soft_Mul.j0 k a0 a1 (t580 != t581) t582 t583 false))))) = some (r1, r2) := H
    have A9 := Aside0.mk A90
    clear A90
    replace H := Option.bind_eq_some_iff.mp H
    obtain ⟨t582, A100, H⟩ := H
    replace H : ((word_Kind.f k a1).bind fun t583 => (if t582 = 4 then (if t583 = 1 then (soft_Mul.j0 k a0 a1 (t580 != t581) t582 t583 true) else (if t582 = 1 then (soft_Mul.j0 k a0 a1 (t580 != t581) t582 t583 (t583 == 4)) else (soft_Mul.j0 k a0 a1 (t580 != t581) t582 t583 false))) else (if t582 = 1 then (soft_Mul.j0 k a0 a1 (t580 != t581) t582 t583 (t583 == 4)) else (soft_Mul.j0 k a0 a1 (t580 != t581) t582 t583 false)))) = some (r1, r2) := H
    have A10 := Aside0.mk A100
    clear A100
    replace H := Option.bind_eq_some_iff.mp H
    obtain ⟨t583, A110, H⟩ := H
    replace H : (if t582 = 4 then (if t583 = 1 then (soft_Mul.j0 k a0 a1 (t580 != t581) t582 t583 true) else (if t582 = 1 then (soft_Mul.j0 k a0 a1 (t580 != t581) t582 t583 (t583 == 4)) else (soft_Mul.j0 k a0 a1 (t580 != t581) t582 t583 false))) else (if t582 = 1 then (soft_Mul.j0 k a0 a1 (t580 != t581) t582 t583 (t583 == 4)) else (soft_Mul.j0 k a0 a1 (t580 != t581) t582 t583 false))) = some (r1, r2) := H
    have A11 := Aside0.mk A110
    clear A110
    have HC12 := Aside0.mk H
    clear H
    go_enter Try.func21, Try.ntmps21
    go_upto_region 6 with (first | ((with_reducible refine gate_dst (N := 19) rfl ?_); refine Kd.R_lit (Kd.int .u64) _ 22 ?hg (N := 19) ?hd (xs := ([a0, a1] : List Int)) (inner := [.int .u64 a0, .int .u64 a1]) (ok := fun _ => True) (okp := fun _ => True) ?hr ?hp (fun _ hk => hk) trivial (Below.refl _ _) (Nat.le_refl _) (by simp) ?_; (case hd => rfl); (case hg => rfl); (case hr => first | (go_simp; done) | (go_simp; rfl)); (case hp => exact (Reps.one (show Kd.M (Kd.int .u64) _ _ _ a0 [.int .u64 a0] from rfl) (Reps.one (show Kd.M (Kd.int .u64) _ _ _ a1 [.int .u64 a1] from rfl) (Reps.none _ _)))); intro v575 w13 ho14 hb hg_ hnew_; clear hg_ hnew_; (first | rw [← Ny574.out] at ho14 | (simp only [Int.reduceToNat] at ho14; rw [← Ny574.out] at ho14)); have n0_ := Aside0.mk (Kd.R_lower ho14 (below_size (by repeat (first | (with_reducible first | exact HB.out | apply below_alloc | apply pw_below_drewN | apply below_drew1) | exact HB.out)))); have n1_ := Aside0.mk (below_step (by repeat (first | (with_reducible first | exact HB.out | apply below_alloc | apply pw_below_drewN | apply below_drew1) | exact HB.out)) hb); clear HB; have HO576 := n0_; have HB := n1_; clear n0_ n1_; clear hb ho14; obtain ⟨Ao15, co15, eo15⟩ := Kd.R_slice HO576.out; subst eo15) | ((with_reducible refine gate_callee (f := 30) rfl ?_); refine goesL_ (some 20) rfl rfl Try.func30 (by kernel_rfl) rfl #[.slice Ao15 y574.length co15] rfl (by (try simp only [List.map_toArray, List.map_cons, List.map_nil]); first | done | rfl | (simp only [List.length_drop, List.length_take]; rfl)) ?_; (with_reducible refine (soft_nan.calls k _ _ y574 t577 t578 false _ ?side1 ?side2 A3.out).mono ?_); (case side1 => repeat (first | exact (Kd.R_reads' HO576.out).2.2 | (with_reducible refine Kd.C_alloc ?_ _) | (with_reducible refine Kd.C_drewN ?_ _) | (with_reducible refine Kd.C_drew ?_))); (case side2 => exact (Kd.R_reads' HO576.out).2.1); rintro e w' ⟨rfl, ⟨nd, rfl⟩⟩; refine ⟨_, rfl, ?_⟩) | ((with_reducible refine gate_callee (f := 19) rfl ?_); refine goesL_ (some 28) rfl rfl Try.func19 (by kernel_rfl) rfl #[.int .u64 a0] rfl (by (try simp only [List.map_toArray, List.map_cons, List.map_nil]); first | done | rfl | (simp only [List.length_drop, List.length_take]; rfl)) ?_; (with_reducible refine (word_Neg.calls a0 t580 _ A8.out).mono ?_); rintro e w' ⟨rfl, ⟨nd, rfl⟩⟩; refine ⟨_, rfl, ?_⟩) | ((with_reducible refine gate_callee (f := 19) rfl ?_); refine goesL_ (some 30) rfl rfl Try.func19 (by kernel_rfl) rfl #[.int .u64 a1] rfl (by (try simp only [List.map_toArray, List.map_cons, List.map_nil]); first | done | rfl | (simp only [List.length_drop, List.length_take]; rfl)) ?_; (with_reducible refine (word_Neg.calls a1 t581 _ A9.out).mono ?_); rintro e w' ⟨rfl, ⟨nd, rfl⟩⟩; refine ⟨_, rfl, ?_⟩) | ((with_reducible refine gate_callee (f := 23) rfl ?_); refine goesL_ (some 33) rfl rfl Try.func23 (by kernel_rfl) rfl #[.int .u64 a0] rfl (by (try simp only [List.map_toArray, List.map_cons, List.map_nil]); first | done | rfl | (simp only [List.length_drop, List.length_take]; rfl)) ?_; (with_reducible refine (word_Kind.calls k a0 t582 _ A10.out).mono ?_); rintro e w' ⟨rfl, ⟨nd, rfl⟩⟩; refine ⟨_, rfl, ?_⟩) | ((with_reducible refine gate_callee (f := 23) rfl ?_); refine goesL_ (some 35) rfl rfl Try.func23 (by kernel_rfl) rfl #[.int .u64 a1] rfl (by (try simp only [List.map_toArray, List.map_cons, List.map_nil]); first | done | rfl | (simp only [List.length_drop, List.length_take]; rfl)) ?_; (with_reducible refine (word_Kind.calls k a1 t583 _ A11.out).mono ?_); rintro e w' ⟨rfl, ⟨nd, rfl⟩⟩; refine ⟨_, rfl, ?_⟩))
    (try simp only [Act.put, List.setIfInBounds_toArray, List.set_cons_zero, List.set_cons_succ])
    go_cut [9, 36] (fun v9 v36 wc => ∃ (kq : Nat) (x9_11 : Bool) (x36_11 : Bool), v9 = .bool x9_11 ∧ v36 = .bool x36_11 ∧ Aside0 (soft_Mul.j0 kq a0 a1 x9_11 t582 t583 x36_11 = some (r1, r2)) ∧ Aside0 (kq ≤ k) ∧ Aside0 (Below w.heap.size w wc))
    case first =>
      have H := HC12.out
      clear HC12
      by_cases c16 : t582 = 4
      · rw [if_pos c16] at H
        have c16b0 : (t582 == 4) = true := beq_iff_eq.mpr c16
        have c16b1 : (t582 != 4) = false := bne_eq_false_iff_eq.mpr c16
        clear c16
        (first | rw [c16b0] | (simp only [i64_w, i32_w]; rw [c16b0]) | skip)
        by_cases c17 : t583 = 1
        · rw [if_pos c17] at H
          have c17b0 : (t583 == 1) = true := beq_iff_eq.mpr c17
          have c17b1 : (t583 != 1) = false := bne_eq_false_iff_eq.mpr c17
          clear c17
          have H' := Aside0.mk H
          clear H
          go_wp2
          go_meet
          case rel => exact ⟨_, ((t580 != t581)), (true), (by first | rfl | (simp; done) | (simp [*]; done)), (by first | rfl | (simp; done) | (simp [*]; done)), H', ⟨by first | omega | exact Nat.le_refl _⟩, ⟨by repeat (first | (with_reducible first | exact HB.out | apply below_alloc | apply pw_below_drewN | apply below_drew1) | exact HB.out)⟩⟩
        · rw [if_neg c17] at H
          have c17b0 : (t583 == 1) = false := beq_eq_false_iff_ne.mpr c17
          have c17b1 : (t583 != 1) = true := bne_iff_ne.mpr c17
          by_cases c18 : t582 = 1
          · rw [if_pos c18] at H
            have c18b0 : (t582 == 1) = true := beq_iff_eq.mpr c18
            have c18b1 : (t582 != 1) = false := bne_eq_false_iff_eq.mpr c18
            clear c18
            have H' := Aside0.mk H
            clear H
            go_wp2
            go_meet
            case rel => exact ⟨_, ((t580 != t581)), ((t583 == 4)), (by first | rfl | (simp; done) | (simp [*]; done)), (by first | rfl | (simp; done) | (simp [*]; done)), H', ⟨by first | omega | exact Nat.le_refl _⟩, ⟨by repeat (first | (with_reducible first | exact HB.out | apply below_alloc | apply pw_below_drewN | apply below_drew1) | exact HB.out)⟩⟩
          · rw [if_neg c18] at H
            have c18b0 : (t582 == 1) = false := beq_eq_false_iff_ne.mpr c18
            have c18b1 : (t582 != 1) = true := bne_iff_ne.mpr c18
            have H' := Aside0.mk H
            clear H
            go_wp2
            go_meet
            case rel => exact ⟨_, ((t580 != t581)), (false), (by first | rfl | (simp; done) | (simp [*]; done)), (by first | rfl | (simp; done) | (simp [*]; done)), H', ⟨by first | omega | exact Nat.le_refl _⟩, ⟨by repeat (first | (with_reducible first | exact HB.out | apply below_alloc | apply pw_below_drewN | apply below_drew1) | exact HB.out)⟩⟩
      · rw [if_neg c16] at H
        have c16b0 : (t582 == 4) = false := beq_eq_false_iff_ne.mpr c16
        have c16b1 : (t582 != 4) = true := bne_iff_ne.mpr c16
        (first | rw [c16b0] | (simp only [i64_w, i32_w]; rw [c16b0]) | skip)
        by_cases c19 : t582 = 1
        · rw [if_pos c19] at H
          have c19b0 : (t582 == 1) = true := beq_iff_eq.mpr c19
          have c19b1 : (t582 != 1) = false := bne_eq_false_iff_eq.mpr c19
          clear c19
          have H' := Aside0.mk H
          clear H
          go_wp2
          go_meet
          case rel => exact ⟨_, ((t580 != t581)), ((t583 == 4)), (by first | rfl | (simp; done) | (simp [*]; done)), (by first | rfl | (simp; done) | (simp [*]; done)), H', ⟨by first | omega | exact Nat.le_refl _⟩, ⟨by repeat (first | (with_reducible first | exact HB.out | apply below_alloc | apply pw_below_drewN | apply below_drew1) | exact HB.out)⟩⟩
        · rw [if_neg c19] at H
          have c19b0 : (t582 == 1) = false := beq_eq_false_iff_ne.mpr c19
          have c19b1 : (t582 != 1) = true := bne_iff_ne.mpr c19
          have H' := Aside0.mk H
          clear H
          go_wp2
          go_meet
          case rel => exact ⟨_, ((t580 != t581)), (false), (by first | rfl | (simp; done) | (simp [*]; done)), (by first | rfl | (simp; done) | (simp [*]; done)), H', ⟨by first | omega | exact Nat.le_refl _⟩, ⟨by repeat (first | (with_reducible first | exact HB.out | apply below_alloc | apply pw_below_drewN | apply below_drew1) | exact HB.out)⟩⟩
    case rest =>
      clear HC12
      try clear c1
      try clear c2
      try clear p2
      try clear c3
      try clear c4
      try clear c16
      try clear c16b0
      try clear c16b1
      try clear c17
      try clear c17b0
      try clear c17b1
      try clear c18
      try clear c18b0
      try clear c18b1
      try clear c19
      try clear c19b0
      try clear c19b1
      obtain ⟨kq, x9_11, x36_11, rfl, rfl, HA, HJ11, HB⟩ := hcut
      cases kq with
      | zero => exact absurd HA.out (by simp [soft_Mul.j0])
      | succ kj11 =>
        have H := HA.out
        clear HA
        simp only [soft_Mul.j0] at H
        by_cases c20 : x36_11 = true
        · subst c20
          have H1 : (some (9221120237041090560, 16)) = some (r1, r2) := by rw [if_pos rfl] at H; exact H
          clear H
          have H := H1
          clear H1
          simp only [Option.some.injEq, Prod.mk.injEq] at H
          obtain ⟨rfl, rfl⟩ := H
          go_wp2
          go_ret2
          exact ⟨by first | rfl | (simp [errW_none, errW_some] <;> rfl) | (simp [*, errW_none, errW_some] <;> rfl), by repeat (first | (with_reducible first | exact HB.out | apply below_alloc | apply pw_below_drewN | apply below_drew1) | exact HB.out)⟩
        · replace c20 := Bool.eq_false_iff.mpr c20
          subst c20
          have H1 : (if t582 = 4 then ((word_Make.f x9_11 2047 0).bind fun t584 => (some (t584, 0))) else (if t583 = 4 then ((word_Make.f x9_11 2047 0).bind fun t585 => (some (t585, 0))) else ((word_Parts.f kj11 a0).bind fun bt586 => ((word_Parts.f kj11 a1).bind fun bt588 => ((wide_Mul.f bt586.1 bt588.1).bind fun bt590 => ((round_Round.f kj11 x9_11 bt590.1 bt590.2 (wrap64 (bt586.2 + bt588.2)) false).bind fun bt592 => (some (bt592.1, bt592.2)))))))) = some (r1, r2) := by rw [if_neg (show ¬ (false = true) by decide)] at H; exact H
          clear H
          have H := H1
          clear H1
          by_cases c21 : t582 = 4
          · rw [if_pos c21] at H
            have c21b0 : (t582 == 4) = true := beq_iff_eq.mpr c21
            have c21b1 : (t582 != 4) = false := bne_eq_false_iff_eq.mpr c21
            clear c21
            replace H := Option.bind_eq_some_iff.mp H
            obtain ⟨t584, A220, H⟩ := H
            replace H : (some (t584, 0)) = some (r1, r2) := H
            have A22 := Aside0.mk A220
            clear A220
            simp only [Option.some.injEq, Prod.mk.injEq] at H
            obtain ⟨rfl, rfl⟩ := H
            go_wp2_with (first | ((with_reducible refine gate_callee (f := 48) rfl ?_); refine goesL_ (some 59) rfl rfl Try.func48 (by kernel_rfl) rfl #[.bool x9_11, .int .i64 2047, .int .u64 0] rfl (by (try simp only [List.map_toArray, List.map_cons, List.map_nil]); first | done | rfl | (simp only [List.length_drop, List.length_take]; rfl)) ?_; (with_reducible refine (word_Make.calls x9_11 2047 0 t584 _ A22.out).mono ?_); rintro e w' ⟨rfl, ⟨nd, rfl⟩⟩; refine ⟨_, rfl, ?_⟩))
            go_ret2
            exact ⟨by first | rfl | (simp [errW_none, errW_some] <;> rfl) | (simp [*, errW_none, errW_some] <;> rfl), by repeat (first | (with_reducible first | exact HB.out | apply below_alloc | apply pw_below_drewN | apply below_drew1) | exact HB.out)⟩
          · rw [if_neg c21] at H
            have c21b0 : (t582 == 4) = false := beq_eq_false_iff_ne.mpr c21
            have c21b1 : (t582 != 4) = true := bne_iff_ne.mpr c21
            by_cases c23 : t583 = 4
            · rw [if_pos c23] at H
              have c23b0 : (t583 == 4) = true := beq_iff_eq.mpr c23
              have c23b1 : (t583 != 4) = false := bne_eq_false_iff_eq.mpr c23
              clear c23
              replace H := Option.bind_eq_some_iff.mp H
              obtain ⟨t585, A240, H⟩ := H
              replace H : (some (t585, 0)) = some (r1, r2) := H
              have A24 := Aside0.mk A240
              clear A240
              simp only [Option.some.injEq, Prod.mk.injEq] at H
              obtain ⟨rfl, rfl⟩ := H
              go_wp2_with (first | ((with_reducible refine gate_callee (f := 48) rfl ?_); refine goesL_ (some 59) rfl rfl Try.func48 (by kernel_rfl) rfl #[.bool x9_11, .int .i64 2047, .int .u64 0] rfl (by (try simp only [List.map_toArray, List.map_cons, List.map_nil]); first | done | rfl | (simp only [List.length_drop, List.length_take]; rfl)) ?_; (with_reducible refine (word_Make.calls x9_11 2047 0 t585 _ A24.out).mono ?_); rintro e w' ⟨rfl, ⟨nd, rfl⟩⟩; refine ⟨_, rfl, ?_⟩))
              go_ret2
              exact ⟨by first | rfl | (simp [errW_none, errW_some] <;> rfl) | (simp [*, errW_none, errW_some] <;> rfl), by repeat (first | (with_reducible first | exact HB.out | apply below_alloc | apply pw_below_drewN | apply below_drew1) | exact HB.out)⟩
            · rw [if_neg c23] at H
              have c23b0 : (t583 == 4) = false := beq_eq_false_iff_ne.mpr c23
              have c23b1 : (t583 != 4) = true := bne_iff_ne.mpr c23
              replace H := Option.bind_eq_some_iff.mp H
              obtain ⟨⟨t586, t587⟩, A250, H⟩ := H
              replace H : ((word_Parts.f kj11 a1).bind fun bt588 => ((wide_Mul.f t586 bt588.1).bind fun bt590 => ((round_Round.f kj11 x9_11 bt590.1 bt590.2 (wrap64 (t587 + bt588.2)) false).bind fun bt592 => (some (bt592.1, bt592.2))))) = some (r1, r2) := H
              have A25 := Aside0.mk A250
              clear A250
              replace H := Option.bind_eq_some_iff.mp H
              obtain ⟨⟨t588, t589⟩, A260, H⟩ := H
              replace H : ((wide_Mul.f t586 t588).bind fun bt590 => ((round_Round.f kj11 x9_11 bt590.1 bt590.2 (wrap64 (t587 + t589)) false).bind fun bt592 => (some (bt592.1, bt592.2)))) = some (r1, r2) := H
              have A26 := Aside0.mk A260
              clear A260
              replace H := Option.bind_eq_some_iff.mp H
              obtain ⟨⟨t590, t591⟩, A270, H⟩ := H
              replace H : ((round_Round.f kj11 x9_11 t590 t591 (wrap64 (t587 + t589)) false).bind fun bt592 => (some (bt592.1, bt592.2))) = some (r1, r2) := H
              have A27 := Aside0.mk A270
              clear A270
              replace H := Option.bind_eq_some_iff.mp H
              obtain ⟨⟨t592, t593⟩, A280, H⟩ := H
              replace H : (some (t592, t593)) = some (r1, r2) := H
              have A28 := Aside0.mk A280
              clear A280
              simp only [Option.some.injEq, Prod.mk.injEq] at H
              obtain ⟨rfl, rfl⟩ := H
              go_wp2_with (first | ((with_reducible refine gate_callee (f := 31) rfl ?_); refine goesL_ (some 62) rfl rfl Try.func31 (by kernel_rfl) rfl #[.int .u64 a0] rfl (by (try simp only [List.map_toArray, List.map_cons, List.map_nil]); first | done | rfl | (simp only [List.length_drop, List.length_take]; rfl)) ?_; (with_reducible refine (word_Parts.calls kj11 a0 t586 t587 _ A25.out).mono ?_); rintro e w' ⟨rfl, ⟨nd, rfl⟩⟩; refine ⟨_, rfl, ?_⟩) | ((with_reducible refine gate_callee (f := 31) rfl ?_); refine goesL_ (some 67) rfl rfl Try.func31 (by kernel_rfl) rfl #[.int .u64 a1] rfl (by (try simp only [List.map_toArray, List.map_cons, List.map_nil]); first | done | rfl | (simp only [List.length_drop, List.length_take]; rfl)) ?_; (with_reducible refine (word_Parts.calls kj11 a1 t588 t589 _ A26.out).mono ?_); rintro e w' ⟨rfl, ⟨nd, rfl⟩⟩; refine ⟨_, rfl, ?_⟩) | ((with_reducible refine gate_callee (f := 56) rfl ?_); refine goesL_ (some 73) rfl rfl Try.func56 (by kernel_rfl) rfl #[.int .u64 t586, .int .u64 t588] rfl (by (try simp only [List.map_toArray, List.map_cons, List.map_nil]); first | done | rfl | (simp only [List.length_drop, List.length_take]; rfl)) ?_; (with_reducible refine (wide_Mul.calls t586 t588 t590 t591 _ A27.out).mono ?_); rintro e w29 ⟨rfl, hb⟩; refine ⟨_, rfl, ?_⟩; have n0_ := Aside0.mk (below_step (by repeat (first | (with_reducible first | exact HB.out | apply below_alloc | apply pw_below_drewN | apply below_drew1) | exact HB.out)) hb); clear HB; have HB := n0_; clear n0_; (try clear hb); (try clear hb2); (try clear hk); (try clear hi)) | ((with_reducible refine gate_callee (f := 35) rfl ?_); refine goesL_ (some 77) rfl rfl Try.func35 (by kernel_rfl) rfl #[.bool x9_11, .agg #[.int .u64 t590, .int .u64 t591], .int .i64 (wrap64 (t587 + t589)), .bool false] rfl (by (try simp only [List.map_toArray, List.map_cons, List.map_nil]); first | done | rfl | (simp only [List.length_drop, List.length_take]; rfl)) ?_; (with_reducible refine (round_Round.calls kj11 x9_11 t590 t591 (wrap64 (t587 + t589)) false t592 t593 _ A28.out).mono ?_); rintro e w30 ⟨rfl, hb⟩; refine ⟨_, rfl, ?_⟩; have n0_ := Aside0.mk (below_step (by repeat (first | (with_reducible first | exact HB.out | apply below_alloc | apply pw_below_drewN | apply below_drew1) | exact HB.out)) hb); clear HB; have HB := n0_; clear n0_; (try clear hb); (try clear hb2); (try clear hk); (try clear hi)))
              go_ret2
              exact ⟨by first | rfl | (simp [errW_none, errW_some] <;> rfl) | (simp [*, errW_none, errW_some] <;> rfl), by repeat (first | (with_reducible first | exact HB.out | apply below_alloc | apply pw_below_drewN | apply below_drew1) | exact HB.out)⟩

end Go.Proofs.Ytfbnojelmdcnoaa.F
