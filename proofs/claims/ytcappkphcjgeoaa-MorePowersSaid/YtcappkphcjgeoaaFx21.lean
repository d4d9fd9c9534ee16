-- Written by a program of this seat's session (mkprint), out of the translation.
import Derived.Test.YtcappkphcjgeoaaFx0
import Derived.Test.YtcappkphcjgeoaaFx2
import Derived.Test.YtcappkphcjgeoaaFx5
import Derived.Test.YtcappkphcjgeoaaFx8
import Derived.Test.YtcappkphcjgeoaaFx12
namespace Go.Proofs.Ytcappkphcjgeoaa.F
open Go.RowKit Go.Proofs.YtcappkphcjgeoaaW.PrintWords Go.Proofs.YtcappkphcjgeoaaW.PrintLast Go.Proofs.YtcappkphcjgeoaaW.PrintMore
attribute [local go_sem] max2_int min2_int max_two min_two max_three min_three max_four min_four   -- for this text's walks alone
set_option linter.unusedVariables false
set_option linter.unusedSimpArgs false

/-! ### gimballaw05_MorePowers: function 7 -/
mutual
def gimballaw05_MorePowers.j0 : Nat → Int → Bool → Option (Bool)
  | 0, _, _ => none
  | k + 1, x0, x64 => if x64 = true then (some false) else ((soft_Mul.f k x0 x0).bind fun bt547 => ((word_Finite.f bt547.1).bind fun t549 => (if t549 = true then (if (Go.bits .and .u8 bt547.2 2) = 0 then ((word_Finite.f x0).bind fun t550 => (gimballaw05_MorePowers.j1 k x0 bt547.1 (!t550))) else (gimballaw05_MorePowers.j1 k x0 bt547.1 true)) else (gimballaw05_MorePowers.j1 k x0 bt547.1 true))))
def gimballaw05_MorePowers.j1 : Nat → Int → Int → Bool → Option (Bool)
  | 0, _, _, _ => none
  | k + 1, x0, x13, x83 => if x83 = true then (some true) else ((more_Sqrt.f k x13).bind fun bt551 => ((word_Abs.f x0).bind fun t553 => (some (bt551.1 == t553))))
end
def gimballaw05_MorePowers.f (k : Nat) (a0 : Int) (a1 : Int) (a2 : Int) : Option (Bool) := (gimballaw05_head.f k).bind fun t539 => (if t539 = true then ((more_Scale.f k a0 (wrap64 ((Go.bits .and .i64 a1 1023) - 512))).bind fun bt540 => ((more_Scale.f k bt540.1 (wrap64 ((Go.bits .and .i64 a2 1023) - 512))).bind fun bt542 => ((more_Scale.f k a0 (wrap64 ((wrap64 ((Go.bits .and .i64 a1 1023) - 512)) + (wrap64 ((Go.bits .and .i64 a2 1023) - 512))))).bind fun bt544 => (if bt540.2 = 0 then (if bt542.2 = 0 then (if bt542.1 = bt544.1 then (gimballaw05_MorePowers.j0 k a0 (bt544.2 != 0)) else ((word_Kind.f k a0).bind fun t546 => (if t546 = 5 then (gimballaw05_MorePowers.j0 k a0 (bt544.2 != 0)) else (gimballaw05_MorePowers.j0 k a0 true)))) else (gimballaw05_MorePowers.j0 k a0 false)) else (gimballaw05_MorePowers.j0 k a0 false))))) else (some false))
theorem gimballaw05_MorePowers.mono_l : ∀ k, (∀ y0 y1, LeO (gimballaw05_MorePowers.j0 k y0 y1) (gimballaw05_MorePowers.j0 (k + 1) y0 y1)) ∧ (∀ y0 y1 y2, LeO (gimballaw05_MorePowers.j1 k y0 y1 y2) (gimballaw05_MorePowers.j1 (k + 1) y0 y1 y2))
  | 0 => ⟨fun _ _ r h => by simp [gimballaw05_MorePowers.j0] at h, fun _ _ _ r h => by simp [gimballaw05_MorePowers.j1] at h⟩
  | k + 1 => by
    obtain ⟨ih0, ih1⟩ := gimballaw05_MorePowers.mono_l k
    refine ⟨?_, ?_⟩
    · intro y0 y1
      unfold gimballaw05_MorePowers.j0
      repeat' first
      | (with_reducible exact ih0 _ _)
      | (with_reducible exact ih1 _ _ _)
      | (with_reducible exact gimballaw05_head.mono _)
      | (with_reducible exact more_Scale.mono _ _ _)
      | (with_reducible exact more_Sqrt.mono _ _)
      | (with_reducible exact soft_Mul.mono _ _ _)
      | (with_reducible exact word_Kind.mono _ _)
      | (with_reducible exact LeO.refl _)
      | (with_reducible exact LeO.none _)
      | (with_reducible refine LeO.ite ?_ ?_)
      | (with_reducible refine LeO.bind ?_ (fun _ => ?_))
      | exact ih0 _ _
      | exact ih1 _ _ _
      | exact gimballaw05_head.mono _
      | exact more_Scale.mono _ _ _
      | exact more_Sqrt.mono _ _
      | exact soft_Mul.mono _ _ _
      | exact word_Kind.mono _ _
      | exact LeO.none _
      | refine LeO.ite ?_ ?_
      | refine LeO.bind ?_ (fun _ => ?_)
    · intro y0 y1 y2
      unfold gimballaw05_MorePowers.j1
      repeat' first
      | (with_reducible exact ih0 _ _)
      | (with_reducible exact ih1 _ _ _)
      | (with_reducible exact gimballaw05_head.mono _)
      | (with_reducible exact more_Scale.mono _ _ _)
      | (with_reducible exact more_Sqrt.mono _ _)
      | (with_reducible exact soft_Mul.mono _ _ _)
      | (with_reducible exact word_Kind.mono _ _)
      | (with_reducible exact LeO.refl _)
      | (with_reducible exact LeO.none _)
      | (with_reducible refine LeO.ite ?_ ?_)
      | (with_reducible refine LeO.bind ?_ (fun _ => ?_))
      | exact ih0 _ _
      | exact ih1 _ _ _
      | exact gimballaw05_head.mono _
      | exact more_Scale.mono _ _ _
      | exact more_Sqrt.mono _ _
      | exact soft_Mul.mono _ _ _
      | exact word_Kind.mono _ _
      | exact LeO.none _
      | refine LeO.ite ?_ ?_
      | refine LeO.bind ?_ (fun _ => ?_)
theorem gimballaw05_MorePowers.mono : ∀ a0 a1 a2 k, LeO (gimballaw05_MorePowers.f k a0 a1 a2) (gimballaw05_MorePowers.f (k + 1) a0 a1 a2) := by
  intro a0 a1 a2 k
  obtain ⟨ih0, ih1⟩ := gimballaw05_MorePowers.mono_l k
  unfold gimballaw05_MorePowers.f
  repeat' first
      | (with_reducible exact ih0 _ _)
      | (with_reducible exact ih1 _ _ _)
      | (with_reducible exact gimballaw05_head.mono _)
      | (with_reducible exact more_Scale.mono _ _ _)
      | (with_reducible exact more_Sqrt.mono _ _)
      | (with_reducible exact soft_Mul.mono _ _ _)
      | (with_reducible exact word_Kind.mono _ _)
      | (with_reducible exact LeO.refl _)
      | (with_reducible exact LeO.none _)
      | (with_reducible refine LeO.ite ?_ ?_)
      | (with_reducible refine LeO.bind ?_ (fun _ => ?_))
      | exact ih0 _ _
      | exact ih1 _ _ _
      | exact gimballaw05_head.mono _
      | exact more_Scale.mono _ _ _
      | exact more_Sqrt.mono _ _
      | exact soft_Mul.mono _ _ _
      | exact word_Kind.mono _ _
      | exact LeO.none _
      | refine LeO.ite ?_ ?_
      | refine LeO.bind ?_ (fun _ => ?_)
set_option maxHeartbeats 8000000 in
set_option maxRecDepth 100000 in
theorem gimballaw05_MorePowers.calls (k : Nat) (a0 : Int) (a1 : Int) (a2 : Int) (r : Bool) (w : World) (h : gimballaw05_MorePowers.f k a0 a1 a2 = some r) :
    Calls Try.prog 7 #[.int .u64 a0, .int .i64 a1, .int .i64 a2] w fun e w' => e = .returned (.bool r) ∧ Below w.heap.size w w' := by
  have HB := Aside0.mk (Below.refl w.heap.size w)
  have H : ((gimballaw05_head.f k).bind fun t539 => (if t539 = true then ((more_Scale.f k a0 (wrap64 ((Go.bits .and .i64 a1 1023) - 512))).bind fun bt540 => ((more_Scale.f k bt540.1 (wrap64 ((Go.bits .and .i64 a2 1023) - 512))).bind fun bt542 => ((more_Scale.f k a0 (wrap64 ((wrap64 ((Go.bits .and .i64 a1 1023) - 512)) + (wrap64 ((Go.bits .and .i64 a2 1023) - 512))))).bind fun bt544 => (if bt540.2 = 0 then (if bt542.2 = 0 then (if bt542.1 = bt544.1 then (gimballaw05_MorePowers.j0 k a0 (bt544.2 != 0)) else ((word_Kind.f k a0).bind fun t546 => (if t546 = 5 then (gimballaw05_MorePowers.j0 k a0 (bt544.2 != 0)) else (gimballaw05_MorePowers.j0 k a0 true)))) else (gimballaw05_MorePowers.j0 k a0 false)) else (gimballaw05_MorePowers.j0 k a0 false))))) else (some false))) = some r := h
  clear h
  replace H := Option.bind_eq_some_iff.mp H
  obtain ⟨t539, A40, H⟩ := H
  replace H : (if t539 = true then ((more_Scale.f k a0 (wrap64 ((Go.bits .and .i64 a1 1023) - 512))).bind fun bt540 => ((more_Scale.f k bt540.1 (wrap64 ((Go.bits .and .i64 a2 1023) - 512))).bind fun bt542 => ((more_Scale.f k a0 (wrap64 ((wrap64 ((Go.bits .and .i64 a1 1023) - 512)) + (wrap64 ((Go.bits .and .i64 a2 1023) - 512))))).bind fun bt544 => (if bt540.2 = 0 then (if bt542.2 = 0 then (if bt542.1 = bt544.1 then (gimballaw05_MorePowers.j0 k a0 (bt544.2 != 0)) else ((word_Kind.f k a0).bind fun t546 => (if t546 = 5 then (gimballaw05_MorePowers.j0 k a0 (bt544.2 != 0)) else (gimballaw05_MorePowers.j0 k a0 true)))) else (gimballaw05_MorePowers.j0 k a0 false)) else (gimballaw05_MorePowers.j0 k a0 false))))) else (some false)) = some r := H
  have A4 := Aside0.mk A40
  clear A40
  by_cases c5 : t539 = true
  · subst c5
    have H1 : ((more_Scale.f k a0 (wrap64 ((Go.bits .and .i64 a1 1023) - 512))).bind fun bt540 => ((more_Scale.f k bt540.1 (wrap64 ((Go.bits .and .i64 a2 1023) - 512))).bind fun bt542 => ((more_Scale.f k a0 (wrap64 ((wrap64 ((Go.bits .and .i64 a1 1023) - 512)) + (wrap64 ((Go.bits .and .i64 a2 1023) - 512))))).bind fun bt544 => (if bt540.2 = 0 then (if bt542.2 = 0 then (if bt542.1 = bt544.1 then (gimballaw05_MorePowers.j0 k a0 (bt544.2 != 0)) else ((word_Kind.f k a0).bind fun t546 => (if t546 = 5 then (gimballaw05_MorePowers.j0 k a0 (bt544.2 != 0)) else (gimballaw05_MorePowers.j0 k a0 true)))) else (gimballaw05_MorePowers.j0 k a0 false)) else (gimballaw05_MorePowers.j0 k a0 false))))) = some r := by rw [if_pos rfl] at H; exact H
    clear H
    have H := H1
    clear H1
    replace H := Option.bind_eq_some_iff.mp H
    obtain ⟨⟨t540, t541⟩, A60, H⟩ := H
    replace H : ((more_Scale.f k t540 (wrap64 ((Go.bits .and .i64 a2 1023) - 512))).bind fun bt542 => ((more_Scale.f k a0 (wrap64 ((wrap64 ((Go.bits .and .i64 a1 1023) - 512)) + (wrap64 ((Go.bits .and .i64 a2 1023) - 512))))).bind fun bt544 => (if t541 = 0 then (if bt542.2 = 0 then (if bt542.1 = bt544.1 then (gimballaw05_MorePowers.j0 k a0 (bt544.2 != 0)) else ((word_Kind.f k a0).bind fun t546 => (if t546 = 5 then (gimballaw05_MorePowers.j0 k a0 (bt544.2 != 0)) else (gimballaw05_MorePowers.j0 k a0 true)))) else (gimballaw05_MorePowers.j0 k a0 false)) else (gimballaw05_MorePowers.j0 k a0 false)))) = some r := H
    have A6 := Aside0.mk A60
    clear A60
    replace H := Option.bind_eq_some_iff.mp H
    obtain ⟨⟨t542, t543⟩, A70, H⟩ := H
    replace H : ((more_Scale.f k a0 (wrap64 ((wrap64 ((Go.bits .and .i64 a1 1023) - 512)) + (wrap64 ((Go.bits .and .i64 a2 1023) - 512))))).bind fun bt544 => (if t541 = 0 then (if t543 = 0 then (if t542 = bt544.1 then (gimballaw05_MorePowers.j0 k a0 (bt544.2 != 0)) else ((word_Kind.f k a0).bind fun t546 => (if t546 = 5 then (gimballaw05_MorePowers.j0 k a0 (bt544.2 != 0)) else (gimballaw05_MorePowers.j0 k a0 true)))) else (gimballaw05_MorePowers.j0 k a0 false)) else (gimballaw05_MorePowers.j0 k a0 false))) = some r := H
    have A7 := Aside0.mk A70
    clear A70
    replace H := Option.bind_eq_some_iff.mp H
    obtain ⟨⟨t544, t545⟩, A80, H⟩ := H
    replace H : (if t541 = 0 then (if t543 = 0 then (if t542 = t544 then (gimballaw05_MorePowers.j0 k a0 (t545 != 0)) else ((word_Kind.f k a0).bind fun t546 => (if t546 = 5 then (gimballaw05_MorePowers.j0 k a0 (t545 != 0)) else (gimballaw05_MorePowers.j0 k a0 true)))) else (gimballaw05_MorePowers.j0 k a0 false)) else (gimballaw05_MorePowers.j0 k a0 false)) = some r := H
    have A8 := Aside0.mk A80
    clear A80
    have HC9 := Aside0.mk H
    clear H
    go_enter Try.func7, Try.ntmps7
    go_upto_region 8 with (first | ((with_reducible refine gate_callee (f := 10) rfl ?_); refine goesL_ (some 17) rfl rfl Try.func10 (by kernel_rfl) rfl #[] rfl (by (try simp only [List.map_toArray, List.map_cons, List.map_nil]); first | done | rfl | (simp only [List.length_drop, List.length_take]; rfl)) ?_; (with_reducible refine (gimballaw05_head.calls k  true _ A4.out).mono ?_); rintro e w10 ⟨rfl, hb⟩; refine ⟨_, rfl, ?_⟩; have n0_ := Aside0.mk (below_step (by repeat (first | (with_reducible first | exact HB.out | apply below_alloc | apply pw_below_drewN | apply below_drew1) | exact HB.out)) hb); clear HB; have HB := n0_; clear n0_; (try clear hb); (try clear hb2); (try clear hk); (try clear hi)) | ((with_reducible refine gate_callee (f := 13) rfl ?_); refine goesL_ (some 28) rfl rfl Try.func13 (by kernel_rfl) rfl #[.int .u64 a0, .int .i64 (wrap64 ((Go.bits .and .i64 a1 1023) - 512))] rfl (by (try simp only [List.map_toArray, List.map_cons, List.map_nil]); first | done | rfl | (simp only [List.length_drop, List.length_take]; rfl)) ?_; (with_reducible refine (more_Scale.calls k a0 (wrap64 ((Go.bits .and .i64 a1 1023) - 512)) t540 t541 _ A6.out).mono ?_); rintro e w11 ⟨rfl, hb⟩; refine ⟨_, rfl, ?_⟩; have n0_ := Aside0.mk (below_step (by repeat (first | (with_reducible first | exact HB.out | apply below_alloc | apply pw_below_drewN | apply below_drew1) | exact HB.out)) hb); clear HB; have HB := n0_; clear n0_; (try clear hb); (try clear hb2); (try clear hk); (try clear hi)) | ((with_reducible refine gate_callee (f := 13) rfl ?_); refine goesL_ (some 34) rfl rfl Try.func13 (by kernel_rfl) rfl #[.int .u64 t540, .int .i64 (wrap64 ((Go.bits .and .i64 a2 1023) - 512))] rfl (by (try simp only [List.map_toArray, List.map_cons, List.map_nil]); first | done | rfl | (simp only [List.length_drop, List.length_take]; rfl)) ?_; (with_reducible refine (more_Scale.calls k t540 (wrap64 ((Go.bits .and .i64 a2 1023) - 512)) t542 t543 _ A7.out).mono ?_); rintro e w12 ⟨rfl, hb⟩; refine ⟨_, rfl, ?_⟩; have n0_ := Aside0.mk (below_step (by repeat (first | (with_reducible first | exact HB.out | apply below_alloc | apply pw_below_drewN | apply below_drew1) | exact HB.out)) hb); clear HB; have HB := n0_; clear n0_; (try clear hb); (try clear hb2); (try clear hk); (try clear hi)) | ((with_reducible refine gate_callee (f := 13) rfl ?_); refine goesL_ (some 42) rfl rfl Try.func13 (by kernel_rfl) rfl #[.int .u64 a0, .int .i64 (wrap64 ((wrap64 ((Go.bits .and .i64 a1 1023) - 512)) + (wrap64 ((Go.bits .and .i64 a2 1023) - 512))))] rfl (by (try simp only [List.map_toArray, List.map_cons, List.map_nil]); first | done | rfl | (simp only [List.length_drop, List.length_take]; rfl)) ?_; (with_reducible refine (more_Scale.calls k a0 (wrap64 ((wrap64 ((Go.bits .and .i64 a1 1023) - 512)) + (wrap64 ((Go.bits .and .i64 a2 1023) - 512)))) t544 t545 _ A8.out).mono ?_); rintro e w13 ⟨rfl, hb⟩; refine ⟨_, rfl, ?_⟩; have n0_ := Aside0.mk (below_step (by repeat (first | (with_reducible first | exact HB.out | apply below_alloc | apply pw_below_drewN | apply below_drew1) | exact HB.out)) hb); clear HB; have HB := n0_; clear n0_; (try clear hb); (try clear hb2); (try clear hk); (try clear hi)))
    (try simp only [Act.put, List.setIfInBounds_toArray, List.set_cons_zero, List.set_cons_succ])
    go_cut [64] (fun v64 wc => ∃ (kq : Nat) (x64_8 : Bool), v64 = .bool x64_8 ∧ Aside0 (gimballaw05_MorePowers.j0 kq a0 x64_8 = some r) ∧ Aside0 (kq ≤ k) ∧ Aside0 (Below w.heap.size w wc))
    case first =>
      have H := HC9.out
      clear HC9
      by_cases c14 : t541 = 0
      · rw [if_pos c14] at H
        have c14b0 : (t541 == 0) = true := beq_iff_eq.mpr c14
        have c14b1 : (t541 != 0) = false := bne_eq_false_iff_eq.mpr c14
        clear c14
        (first | rw [c14b0] | (simp only [i64_w, i32_w]; rw [c14b0]) | skip)
        by_cases c15 : t543 = 0
        · rw [if_pos c15] at H
          have c15b0 : (t543 == 0) = true := beq_iff_eq.mpr c15
          have c15b1 : (t543 != 0) = false := bne_eq_false_iff_eq.mpr c15
          clear c15
          by_cases c16 : t542 = t544
          · rw [if_pos c16] at H
            have c16b0 : (t542 == t544) = true := beq_iff_eq.mpr c16
            have c16b1 : (t542 != t544) = false := bne_eq_false_iff_eq.mpr c16
            clear c16
            have H' := Aside0.mk H
            clear H
            go_wp2
            go_meet
            case rel => exact ⟨_, ((t545 != 0)), (by first | rfl | (simp; done) | (simp [*]; done)), H', ⟨by first | omega | exact Nat.le_refl _⟩, ⟨by repeat (first | (with_reducible first | exact HB.out | apply below_alloc | apply pw_below_drewN | apply below_drew1) | exact HB.out)⟩⟩
          · rw [if_neg c16] at H
            have c16b0 : (t542 == t544) = false := beq_eq_false_iff_ne.mpr c16
            have c16b1 : (t542 != t544) = true := bne_iff_ne.mpr c16
            replace H := Option.bind_eq_some_iff.mp H
            obtain ⟨t546, A170, H⟩ := H
            replace H : (if t546 = 5 then (gimballaw05_MorePowers.j0 k a0 (t545 != 0)) else (gimballaw05_MorePowers.j0 k a0 true)) = some r := H
            have A17 := Aside0.mk A170
            clear A170
            by_cases c18 : t546 = 5
            · rw [if_pos c18] at H
              have c18b0 : (t546 == 5) = true := beq_iff_eq.mpr c18
              have c18b1 : (t546 != 5) = false := bne_eq_false_iff_eq.mpr c18
              clear c18
              have H' := Aside0.mk H
              clear H
              go_wp2_with (first | (go_at_call 26; (with_reducible refine (word_Kind.calls k a0 t546 _ A17.out).mono ?_); rintro e w' ⟨rfl, ⟨nd, rfl⟩⟩))
              go_meet
              case rel => exact ⟨_, ((t545 != 0)), (by first | rfl | (simp; done) | (simp [*]; done)), H', ⟨by first | omega | exact Nat.le_refl _⟩, ⟨by repeat (first | (with_reducible first | exact HB.out | apply below_alloc | apply pw_below_drewN | apply below_drew1) | exact HB.out)⟩⟩
            · rw [if_neg c18] at H
              have c18b0 : (t546 == 5) = false := beq_eq_false_iff_ne.mpr c18
              have c18b1 : (t546 != 5) = true := bne_iff_ne.mpr c18
              have H' := Aside0.mk H
              clear H
              go_wp2_with (first | (go_at_call 26; (with_reducible refine (word_Kind.calls k a0 t546 _ A17.out).mono ?_); rintro e w' ⟨rfl, ⟨nd, rfl⟩⟩))
              go_meet
              case rel => exact ⟨_, (true), (by first | rfl | (simp; done) | (simp [*]; done)), H', ⟨by first | omega | exact Nat.le_refl _⟩, ⟨by repeat (first | (with_reducible first | exact HB.out | apply below_alloc | apply pw_below_drewN | apply below_drew1) | exact HB.out)⟩⟩
        · rw [if_neg c15] at H
          have c15b0 : (t543 == 0) = false := beq_eq_false_iff_ne.mpr c15
          have c15b1 : (t543 != 0) = true := bne_iff_ne.mpr c15
          have H' := Aside0.mk H
          clear H
          go_wp2
          go_meet
          case rel => exact ⟨_, (false), (by first | rfl | (simp; done) | (simp [*]; done)), H', ⟨by first | omega | exact Nat.le_refl _⟩, ⟨by repeat (first | (with_reducible first | exact HB.out | apply below_alloc | apply pw_below_drewN | apply below_drew1) | exact HB.out)⟩⟩
      · rw [if_neg c14] at H
        have c14b0 : (t541 == 0) = false := beq_eq_false_iff_ne.mpr c14
        have c14b1 : (t541 != 0) = true := bne_iff_ne.mpr c14
        (first | rw [c14b0] | (simp only [i64_w, i32_w]; rw [c14b0]) | skip)
        have H' := Aside0.mk H
        clear H
        go_wp2
        go_meet
        case rel => exact ⟨_, (false), (by first | rfl | (simp; done) | (simp [*]; done)), H', ⟨by first | omega | exact Nat.le_refl _⟩, ⟨by repeat (first | (with_reducible first | exact HB.out | apply below_alloc | apply pw_below_drewN | apply below_drew1) | exact HB.out)⟩⟩
    case rest =>
      clear HC9
      try clear c1
      try clear p2
      try clear c5
      try clear p6
      try clear c7
      try clear c10
      try clear c13
      try clear c14
      try clear c14b0
      try clear c14b1
      try clear c15
      try clear c15b0
      try clear c15b1
      try clear c16
      try clear c16b0
      try clear c16b1
      try clear c18
      try clear c18b0
      try clear c18b1
      obtain ⟨kq, x64_8, rfl, HA, HJ8, HB⟩ := hcut
      cases kq with
      | zero => exact absurd HA.out (by simp [gimballaw05_MorePowers.j0])
      | succ kj8 =>
        have H := HA.out
        clear HA
        simp only [gimballaw05_MorePowers.j0] at H
        by_cases c19 : x64_8 = true
        · subst c19
          have H1 : (some false) = some r := by rw [if_pos rfl] at H; exact H
          clear H
          have H := H1
          clear H1
          obtain rfl := Option.some.inj H
          go_wp2
          go_ret
          exact ⟨by first | rfl | (simp [errW_none, errW_some] <;> rfl) | (simp [*, errW_none, errW_some] <;> rfl), by repeat (first | (with_reducible first | exact HB.out | apply below_alloc | apply pw_below_drewN | apply below_drew1) | exact HB.out)⟩
        · replace c19 := Bool.eq_false_iff.mpr c19
          subst c19
          have H1 : ((soft_Mul.f kj8 a0 a0).bind fun bt547 => ((word_Finite.f bt547.1).bind fun t549 => (if t549 = true then (if (Go.bits .and .u8 bt547.2 2) = 0 then ((word_Finite.f a0).bind fun t550 => (gimballaw05_MorePowers.j1 kj8 a0 bt547.1 (!t550))) else (gimballaw05_MorePowers.j1 kj8 a0 bt547.1 true)) else (gimballaw05_MorePowers.j1 kj8 a0 bt547.1 true)))) = some r := by rw [if_neg (show ¬ (false = true) by decide)] at H; exact H
          clear H
          have H := H1
          clear H1
          replace H := Option.bind_eq_some_iff.mp H
          obtain ⟨⟨t547, t548⟩, A200, H⟩ := H
          replace H : ((word_Finite.f t547).bind fun t549 => (if t549 = true then (if (Go.bits .and .u8 t548 2) = 0 then ((word_Finite.f a0).bind fun t550 => (gimballaw05_MorePowers.j1 kj8 a0 t547 (!t550))) else (gimballaw05_MorePowers.j1 kj8 a0 t547 true)) else (gimballaw05_MorePowers.j1 kj8 a0 t547 true))) = some r := H
          have A20 := Aside0.mk A200
          clear A200
          have HC21 := Aside0.mk H
          clear H
          go_upto_region 11 with (first | ((with_reducible refine gate_callee (f := 27) rfl ?_); refine goesL_ (some 68) rfl rfl Try.func27 (by kernel_rfl) rfl #[.int .u64 a0, .int .u64 a0] rfl (by (try simp only [List.map_toArray, List.map_cons, List.map_nil]); first | done | rfl | (simp only [List.length_drop, List.length_take]; rfl)) ?_; (with_reducible refine (soft_Mul.calls kj8 a0 a0 t547 t548 _ A20.out).mono ?_); rintro e w22 ⟨rfl, hb⟩; refine ⟨_, rfl, ?_⟩; have n0_ := Aside0.mk (below_step (by repeat (first | (with_reducible first | exact HB.out | apply below_alloc | apply pw_below_drewN | apply below_drew1) | exact HB.out)) hb); clear HB; have HB := n0_; clear n0_; (try clear hb); (try clear hb2); (try clear hk); (try clear hi)))
          (try simp only [Act.put, List.setIfInBounds_toArray, List.set_cons_zero, List.set_cons_succ])
          go_cut [83] (fun v83 wc => ∃ (kq : Nat) (x83_20 : Bool), v83 = .bool x83_20 ∧ Aside0 (gimballaw05_MorePowers.j1 kq a0 t547 x83_20 = some r) ∧ Aside0 (kq ≤ kj8) ∧ Aside0 (Below w.heap.size w wc))
          case first =>
            have H := HC21.out
            clear HC21
            replace H := Option.bind_eq_some_iff.mp H
            obtain ⟨t549, A230, H⟩ := H
            replace H : (if t549 = true then (if (Go.bits .and .u8 t548 2) = 0 then ((word_Finite.f a0).bind fun t550 => (gimballaw05_MorePowers.j1 kj8 a0 t547 (!t550))) else (gimballaw05_MorePowers.j1 kj8 a0 t547 true)) else (gimballaw05_MorePowers.j1 kj8 a0 t547 true)) = some r := H
            have A23 := Aside0.mk A230
            clear A230
            by_cases c24 : t549 = true
            · subst c24
              have H1 : (if (Go.bits .and .u8 t548 2) = 0 then ((word_Finite.f a0).bind fun t550 => (gimballaw05_MorePowers.j1 kj8 a0 t547 (!t550))) else (gimballaw05_MorePowers.j1 kj8 a0 t547 true)) = some r := by rw [if_pos rfl] at H; exact H
              clear H
              have H := H1
              clear H1
              by_cases c25 : (Go.bits .and .u8 t548 2) = 0
              · rw [if_pos c25] at H
                have c25b0 : ((Go.bits .and .u8 t548 2) == 0) = true := beq_iff_eq.mpr c25
                have c25b1 : ((Go.bits .and .u8 t548 2) != 0) = false := bne_eq_false_iff_eq.mpr c25
                clear c25
                (first | rw [c25b0] | (simp only [i64_w, i32_w]; rw [c25b0]) | skip)
                replace H := Option.bind_eq_some_iff.mp H
                obtain ⟨t550, A260, H⟩ := H
                replace H : (gimballaw05_MorePowers.j1 kj8 a0 t547 (!t550)) = some r := H
                have A26 := Aside0.mk A260
                clear A260
                have H' := Aside0.mk H
                clear H
                go_wp2_with (first | ((with_reducible refine gate_callee (f := 16) rfl ?_); refine goesL_ (some 72) rfl rfl Try.func16 (by kernel_rfl) rfl #[.int .u64 t547] rfl (by (try simp only [List.map_toArray, List.map_cons, List.map_nil]); first | done | rfl | (simp only [List.length_drop, List.length_take]; rfl)) ?_; (with_reducible refine (word_Finite.calls t547 true _ A23.out).mono ?_); rintro e w' ⟨rfl, ⟨nd, rfl⟩⟩; refine ⟨_, rfl, ?_⟩) | (go_at_call 16; (with_reducible refine (word_Finite.calls a0 t550 _ A26.out).mono ?_); rintro e w' ⟨rfl, ⟨nd, rfl⟩⟩))
                go_meet
                case rel => exact ⟨_, (!t550), (by first | rfl | (simp; done) | (simp [*]; done)), H', ⟨by have := HJ8.out; first | omega | exact Nat.le_refl _⟩, ⟨by repeat (first | (with_reducible first | exact HB.out | apply below_alloc | apply pw_below_drewN | apply below_drew1) | exact HB.out)⟩⟩
              · rw [if_neg c25] at H
                have c25b0 : ((Go.bits .and .u8 t548 2) == 0) = false := beq_eq_false_iff_ne.mpr c25
                have c25b1 : ((Go.bits .and .u8 t548 2) != 0) = true := bne_iff_ne.mpr c25
                (first | rw [c25b0] | (simp only [i64_w, i32_w]; rw [c25b0]) | skip)
                have H' := Aside0.mk H
                clear H
                go_wp2_with (first | ((with_reducible refine gate_callee (f := 16) rfl ?_); refine goesL_ (some 72) rfl rfl Try.func16 (by kernel_rfl) rfl #[.int .u64 t547] rfl (by (try simp only [List.map_toArray, List.map_cons, List.map_nil]); first | done | rfl | (simp only [List.length_drop, List.length_take]; rfl)) ?_; (with_reducible refine (word_Finite.calls t547 true _ A23.out).mono ?_); rintro e w' ⟨rfl, ⟨nd, rfl⟩⟩; refine ⟨_, rfl, ?_⟩))
                go_meet
                case rel => exact ⟨_, (true), (by first | rfl | (simp; done) | (simp [*]; done)), H', ⟨by have := HJ8.out; first | omega | exact Nat.le_refl _⟩, ⟨by repeat (first | (with_reducible first | exact HB.out | apply below_alloc | apply pw_below_drewN | apply below_drew1) | exact HB.out)⟩⟩
            · replace c24 := Bool.eq_false_iff.mpr c24
              subst c24
              have H1 : (gimballaw05_MorePowers.j1 kj8 a0 t547 true) = some r := by rw [if_neg (show ¬ (false = true) by decide)] at H; exact H
              clear H
              have H := H1
              clear H1
              have H' := Aside0.mk H
              clear H
              go_wp2_with (first | ((with_reducible refine gate_callee (f := 16) rfl ?_); refine goesL_ (some 72) rfl rfl Try.func16 (by kernel_rfl) rfl #[.int .u64 t547] rfl (by (try simp only [List.map_toArray, List.map_cons, List.map_nil]); first | done | rfl | (simp only [List.length_drop, List.length_take]; rfl)) ?_; (with_reducible refine (word_Finite.calls t547 false _ A23.out).mono ?_); rintro e w' ⟨rfl, ⟨nd, rfl⟩⟩; refine ⟨_, rfl, ?_⟩))
              go_meet
              case rel => exact ⟨_, (true), (by first | rfl | (simp; done) | (simp [*]; done)), H', ⟨by have := HJ8.out; first | omega | exact Nat.le_refl _⟩, ⟨by repeat (first | (with_reducible first | exact HB.out | apply below_alloc | apply pw_below_drewN | apply below_drew1) | exact HB.out)⟩⟩
          case rest =>
            clear HC21
            try clear c1
            try clear c2
            try clear p2
            try clear c5
            try clear p6
            try clear c7
            try clear c10
            try clear c13
            try clear c14
            try clear c14b0
            try clear c14b1
            try clear c15
            try clear c15b0
            try clear c15b1
            try clear c16
            try clear c16b0
            try clear c16b1
            try clear c18
            try clear c18b0
            try clear c18b1
            try clear c19
            try clear c24
            try clear c25
            try clear c25b0
            try clear c25b1
            try clear p2
            try clear p6
            obtain ⟨kq, x83_20, rfl, HA, HJ20, HB⟩ := hcut
            cases kq with
            | zero => exact absurd HA.out (by simp [gimballaw05_MorePowers.j1])
            | succ kj20 =>
              have H := HA.out
              clear HA
              simp only [gimballaw05_MorePowers.j1] at H
              by_cases c27 : x83_20 = true
              · subst c27
                have H1 : (some true) = some r := by rw [if_pos rfl] at H; exact H
                clear H
                have H := H1
                clear H1
                obtain rfl := Option.some.inj H
                go_wp2
                go_ret
                exact ⟨by first | rfl | (simp [errW_none, errW_some] <;> rfl) | (simp [*, errW_none, errW_some] <;> rfl), by repeat (first | (with_reducible first | exact HB.out | apply below_alloc | apply pw_below_drewN | apply below_drew1) | exact HB.out)⟩
              · replace c27 := Bool.eq_false_iff.mpr c27
                subst c27
                have H1 : ((more_Sqrt.f kj20 t547).bind fun bt551 => ((word_Abs.f a0).bind fun t553 => (some (bt551.1 == t553)))) = some r := by rw [if_neg (show ¬ (false = true) by decide)] at H; exact H
                clear H
                have H := H1
                clear H1
                replace H := Option.bind_eq_some_iff.mp H
                obtain ⟨⟨t551, t552⟩, A280, H⟩ := H
                replace H : ((word_Abs.f a0).bind fun t553 => (some (t551 == t553))) = some r := H
                have A28 := Aside0.mk A280
                clear A280
                replace H := Option.bind_eq_some_iff.mp H
                obtain ⟨t553, A290, H⟩ := H
                replace H : (some (t551 == t553)) = some r := H
                have A29 := Aside0.mk A290
                clear A290
                obtain rfl := Option.some.inj H
                go_wp2_with (first | ((with_reducible refine gate_callee (f := 11) rfl ?_); refine goesL_ (some 86) rfl rfl Try.func11 (by kernel_rfl) rfl #[.int .u64 t547] rfl (by (try simp only [List.map_toArray, List.map_cons, List.map_nil]); first | done | rfl | (simp only [List.length_drop, List.length_take]; rfl)) ?_; (with_reducible refine (more_Sqrt.calls kj20 t547 t551 t552 _ A28.out).mono ?_); rintro e w30 ⟨rfl, hb⟩; refine ⟨_, rfl, ?_⟩; have n0_ := Aside0.mk (below_step (by repeat (first | (with_reducible first | exact HB.out | apply below_alloc | apply pw_below_drewN | apply below_drew1) | exact HB.out)) hb); clear HB; have HB := n0_; clear n0_; (try clear hb); (try clear hb2); (try clear hk); (try clear hi)) | ((with_reducible refine gate_callee (f := 25) rfl ?_); refine goesL_ (some 91) rfl rfl Try.func25 (by kernel_rfl) rfl #[.int .u64 a0] rfl (by (try simp only [List.map_toArray, List.map_cons, List.map_nil]); first | done | rfl | (simp only [List.length_drop, List.length_take]; rfl)) ?_; (with_reducible refine (word_Abs.calls a0 t553 _ A29.out).mono ?_); rintro e w' ⟨rfl, ⟨nd, rfl⟩⟩; refine ⟨_, rfl, ?_⟩))
                go_ret
                exact ⟨by first | rfl | (simp [errW_none, errW_some] <;> rfl) | (simp [*, errW_none, errW_some] <;> rfl), by repeat (first | (with_reducible first | exact HB.out | apply below_alloc | apply pw_below_drewN | apply below_drew1) | exact HB.out)⟩
  · replace c5 := Bool.eq_false_iff.mpr c5
    subst c5
    have H1 : (some false) = some r := by rw [if_neg (show ¬ (false = true) by decide)] at H; exact H
    clear H
    have H := H1
    clear H1
    obtain rfl := Option.some.inj H
    go_enter Try.func7, Try.ntmps7
    go_wp2_with (first | ((with_reducible refine gate_callee (f := 10) rfl ?_); refine goesL_ (some 17) rfl rfl Try.func10 (by kernel_rfl) rfl #[] rfl (by (try simp only [List.map_toArray, List.map_cons, List.map_nil]); first | done | rfl | (simp only [List.length_drop, List.length_take]; rfl)) ?_; (with_reducible refine (gimballaw05_head.calls k  false _ A4.out).mono ?_); rintro e w31 ⟨rfl, hb⟩; refine ⟨_, rfl, ?_⟩; have n0_ := Aside0.mk (below_step (by repeat (first | (with_reducible first | exact HB.out | apply below_alloc | apply pw_below_drewN | apply below_drew1) | exact HB.out)) hb); clear HB; have HB := n0_; clear n0_; (try clear hb); (try clear hb2); (try clear hk); (try clear hi)))
    go_ret
    exact ⟨by first | rfl | (simp [errW_none, errW_some] <;> rfl) | (simp [*, errW_none, errW_some] <;> rfl), by repeat (first | (with_reducible first | exact HB.out | apply below_alloc | apply pw_below_drewN | apply below_drew1) | exact HB.out)⟩

/-- THE ONE PURE STATEMENT of gimballaw05_MorePowers: yours. -/
def gimballaw05_MorePowers.Pure : Prop := ∀ (a0 : Int) (a1 : Int) (a2 : Int), (Lit.int .u64 a0).wf = true → (Lit.int .i64 a1).wf = true → (Lit.int .i64 a2).wf = true → ∃ k, gimballaw05_MorePowers.f k a0 a1 a2 = some true
theorem gimballaw05_MorePowers.walk (P : gimballaw05_MorePowers.Pure) (a0 : Int) (a1 : Int) (a2 : Int) (w : World) (w0 : (Lit.int .u64 a0).wf = true) (w1 : (Lit.int .i64 a1).wf = true) (w2 : (Lit.int .i64 a2).wf = true) :
    Calls Try.prog 7 #[.int .u64 a0, .int .i64 a1, .int .i64 a2] w fun e w' => e = .returned (.bool true) ∧ Below w.heap.size w w' := by
  obtain ⟨k, h⟩ := P a0 a1 a2 w0 w1 w2
  refine (gimballaw05_MorePowers.calls k a0 a1 a2 true w h).mono ?_
  rintro e w' ⟨rfl, hd⟩
  exact ⟨rfl, hd⟩

end Go.Proofs.Ytcappkphcjgeoaa.F
