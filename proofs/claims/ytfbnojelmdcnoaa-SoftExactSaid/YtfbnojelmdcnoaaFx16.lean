-- Written by a program of this seat's session (mkprint), out of the translation.
import Derived.Test.YtfbnojelmdcnoaaFx0
import Derived.Test.YtfbnojelmdcnoaaFx2
import Derived.Test.YtfbnojelmdcnoaaFx5
import Derived.Test.YtfbnojelmdcnoaaFx6
import Derived.Test.YtfbnojelmdcnoaaFx11
namespace Go.Proofs.Ytfbnojelmdcnoaa.F
open Go.RowKit Go.Proofs.YtfbnojelmdcnoaaW.PrintWords Go.Proofs.YtfbnojelmdcnoaaW.PrintLast Go.Proofs.YtfbnojelmdcnoaaW.PrintMore
attribute [local go_sem] max2_int min2_int max_two min_two max_three min_three max_four min_four   -- for this text's walks alone
set_option linter.unusedVariables false
set_option linter.unusedSimpArgs false

/-! ### gimballaw04_SoftExact: function 6 -/
mutual
def gimballaw04_SoftExact.j0 : Nat → Int → Int → Bool → Option (Bool)
  | 0, _, _, _ => none
  | k + 1, x0, x1, x27 => if x27 = true then (some true) else ((word_Abs.f x0).bind fun t559 => ((word_Abs.f x1).bind fun t560 => (if t559 < t560 then (gimballaw04_SoftExact.j1 k x1 x0) else (gimballaw04_SoftExact.j1 k x0 x1))))
def gimballaw04_SoftExact.j1 : Nat → Int → Int → Option (Bool)
  | 0, _, _ => none
  | k + 1, x0, x1 => (soft_Add.f k x1 x1).bind fun bt561 => (if bt561.2 = 0 then ((word_Abs.f bt561.1).bind fun t563 => ((word_Abs.f x0).bind fun t564 => (gimballaw04_SoftExact.j2 k x0 x1 (decide (t563 < t564))))) else (gimballaw04_SoftExact.j2 k x0 x1 true))
def gimballaw04_SoftExact.j2 : Nat → Int → Int → Bool → Option (Bool)
  | 0, _, _, _ => none
  | k + 1, x0, x1, x49 => if x49 = true then (some true) else ((soft_Sub.f k x0 x1).bind fun bt565 => ((soft_Add.f k bt565.1 x1).bind fun bt567 => (if bt565.2 = 0 then (if bt567.2 = 0 then (if bt567.1 = x0 then (some true) else ((word_Abs.f bt567.1).bind fun t569 => (if t569 = 0 then ((word_Abs.f x0).bind fun t570 => (some (t570 == 0))) else (some false)))) else (some false)) else (some false))))
end
def gimballaw04_SoftExact.f (k : Nat) (a0 : Int) (a1 : Int) : Option (Bool) := (gimballaw04_head.f k).bind fun t554 => (if t554 = true then ((word_Finite.f a0).bind fun t555 => (if t555 = true then ((word_Finite.f a1).bind fun t556 => (if t556 = true then ((word_Neg.f a0).bind fun t557 => ((word_Neg.f a1).bind fun t558 => (gimballaw04_SoftExact.j0 k a0 a1 (t557 != t558)))) else (gimballaw04_SoftExact.j0 k a0 a1 true))) else (gimballaw04_SoftExact.j0 k a0 a1 true))) else (some false))
theorem gimballaw04_SoftExact.mono_l : ∀ k, (∀ y0 y1 y2, LeO (gimballaw04_SoftExact.j0 k y0 y1 y2) (gimballaw04_SoftExact.j0 (k + 1) y0 y1 y2)) ∧ (∀ y0 y1, LeO (gimballaw04_SoftExact.j1 k y0 y1) (gimballaw04_SoftExact.j1 (k + 1) y0 y1)) ∧ (∀ y0 y1 y2, LeO (gimballaw04_SoftExact.j2 k y0 y1 y2) (gimballaw04_SoftExact.j2 (k + 1) y0 y1 y2))
  | 0 => ⟨fun _ _ _ r h => by simp [gimballaw04_SoftExact.j0] at h, fun _ _ r h => by simp [gimballaw04_SoftExact.j1] at h, fun _ _ _ r h => by simp [gimballaw04_SoftExact.j2] at h⟩
  | k + 1 => by
    obtain ⟨ih0, ih1, ih2⟩ := gimballaw04_SoftExact.mono_l k
    refine ⟨?_, ?_, ?_⟩
    · intro y0 y1 y2
      unfold gimballaw04_SoftExact.j0
      repeat' first
      | (with_reducible exact ih0 _ _ _)
      | (with_reducible exact ih1 _ _)
      | (with_reducible exact ih2 _ _ _)
      | (with_reducible exact gimballaw04_head.mono _)
      | (with_reducible exact soft_Add.mono _ _ _)
      | (with_reducible exact soft_Sub.mono _ _ _)
      | (with_reducible exact LeO.refl _)
      | (with_reducible exact LeO.none _)
      | (with_reducible refine LeO.ite ?_ ?_)
      | (with_reducible refine LeO.bind ?_ (fun _ => ?_))
      | exact ih0 _ _ _
      | exact ih1 _ _
      | exact ih2 _ _ _
      | exact gimballaw04_head.mono _
      | exact soft_Add.mono _ _ _
      | exact soft_Sub.mono _ _ _
      | exact LeO.none _
      | refine LeO.ite ?_ ?_
      | refine LeO.bind ?_ (fun _ => ?_)
    · intro y0 y1
      unfold gimballaw04_SoftExact.j1
      repeat' first
      | (with_reducible exact ih0 _ _ _)
      | (with_reducible exact ih1 _ _)
      | (with_reducible exact ih2 _ _ _)
      | (with_reducible exact gimballaw04_head.mono _)
      | (with_reducible exact soft_Add.mono _ _ _)
      | (with_reducible exact soft_Sub.mono _ _ _)
      | (with_reducible exact LeO.refl _)
      | (with_reducible exact LeO.none _)
      | (with_reducible refine LeO.ite ?_ ?_)
      | (with_reducible refine LeO.bind ?_ (fun _ => ?_))
      | exact ih0 _ _ _
      | exact ih1 _ _
      | exact ih2 _ _ _
      | exact gimballaw04_head.mono _
      | exact soft_Add.mono _ _ _
      | exact soft_Sub.mono _ _ _
      | exact LeO.none _
      | refine LeO.ite ?_ ?_
      | refine LeO.bind ?_ (fun _ => ?_)
    · intro y0 y1 y2
      unfold gimballaw04_SoftExact.j2
      repeat' first
      | (with_reducible exact ih0 _ _ _)
      | (with_reducible exact ih1 _ _)
      | (with_reducible exact ih2 _ _ _)
      | (with_reducible exact gimballaw04_head.mono _)
      | (with_reducible exact soft_Add.mono _ _ _)
      | (with_reducible exact soft_Sub.mono _ _ _)
      | (with_reducible exact LeO.refl _)
      | (with_reducible exact LeO.none _)
      | (with_reducible refine LeO.ite ?_ ?_)
      | (with_reducible refine LeO.bind ?_ (fun _ => ?_))
      | exact ih0 _ _ _
      | exact ih1 _ _
      | exact ih2 _ _ _
      | exact gimballaw04_head.mono _
      | exact soft_Add.mono _ _ _
      | exact soft_Sub.mono _ _ _
      | exact LeO.none _
      | refine LeO.ite ?_ ?_
      | refine LeO.bind ?_ (fun _ => ?_)
theorem gimballaw04_SoftExact.mono : ∀ a0 a1 k, LeO (gimballaw04_SoftExact.f k a0 a1) (gimballaw04_SoftExact.f (k + 1) a0 a1) := by
  intro a0 a1 k
  obtain ⟨ih0, ih1, ih2⟩ := gimballaw04_SoftExact.mono_l k
  unfold gimballaw04_SoftExact.f
  repeat' first
      | (with_reducible exact ih0 _ _ _)
      | (with_reducible exact ih1 _ _)
      | (with_reducible exact ih2 _ _ _)
      | (with_reducible exact gimballaw04_head.mono _)
      | (with_reducible exact soft_Add.mono _ _ _)
      | (with_reducible exact soft_Sub.mono _ _ _)
      | (with_reducible exact LeO.refl _)
      | (with_reducible exact LeO.none _)
      | (with_reducible refine LeO.ite ?_ ?_)
      | (with_reducible refine LeO.bind ?_ (fun _ => ?_))
      | exact ih0 _ _ _
      | exact ih1 _ _
      | exact ih2 _ _ _
      | exact gimballaw04_head.mono _
      | exact soft_Add.mono _ _ _
      | exact soft_Sub.mono _ _ _
      | exact LeO.none _
      | refine LeO.ite ?_ ?_
      | refine LeO.bind ?_ (fun _ => ?_)
set_option maxHeartbeats 8000000 in
set_option maxRecDepth 100000 in
theorem gimballaw04_SoftExact.calls (k : Nat) (a0 : Int) (a1 : Int) (r : Bool) (w : World) (h : gimballaw04_SoftExact.f k a0 a1 = some r) :
    Calls Try.prog 6 #[.int .u64 a0, .int .u64 a1] w fun e w' => e = .returned (.bool r) ∧ Below w.heap.size w w' := by
  have HB := Aside0.mk (Below.refl w.heap.size w)
  have H : ((gimballaw04_head.f k).bind fun t554 => (if t554 = true then ((word_Finite.f a0).bind fun t555 => (if t555 = true then ((word_Finite.f a1).bind fun t556 => (if t556 = true then ((word_Neg.f a0).bind fun t557 => ((word_Neg.f a1).bind fun t558 => (gimballaw04_SoftExact.j0 k a0 a1 (t557 != t558)))) else (gimballaw04_SoftExact.j0 k a0 a1 true))) else (gimballaw04_SoftExact.j0 k a0 a1 true))) else (some false))) = some r := h
  clear h
  replace H := Option.bind_eq_some_iff.mp H
  obtain ⟨t554, A30, H⟩ := H
  replace H : (if t554 = true then ((word_Finite.f a0).bind fun t555 => (if t555 = true then ((word_Finite.f a1).bind fun t556 => (if t556 = true then ((word_Neg.f a0).bind fun t557 => ((word_Neg.f a1).bind fun t558 => (gimballaw04_SoftExact.j0 k a0 a1 (t557 != t558)))) else (gimballaw04_SoftExact.j0 k a0 a1 true))) else (gimballaw04_SoftExact.j0 k a0 a1 true))) else (some false)) = some r := H
  have A3 := Aside0.mk A30
  clear A30
  by_cases c4 : t554 = true
  · subst c4
    have H1 : ((word_Finite.f a0).bind fun t555 => (if t555 = true then ((word_Finite.f a1).bind fun t556 => (if t556 = true then ((word_Neg.f a0).bind fun t557 => ((word_Neg.f a1).bind fun t558 => (gimballaw04_SoftExact.j0 k a0 a1 (t557 != t558)))) else (gimballaw04_SoftExact.j0 k a0 a1 true))) else (gimballaw04_SoftExact.j0 k a0 a1 true))) = some r := by rw [if_pos rfl] at H; exact H
    clear H
    have H := H1
    clear H1
    have HC5 := Aside0.mk H
    clear H
    go_enter Try.func6, Try.ntmps6
    go_upto_region 3 with (first | ((with_reducible refine gate_callee (f := 11) rfl ?_); refine goesL_ (some 11) rfl rfl Try.func11 (by kernel_rfl) rfl #[] rfl (by (try simp only [List.map_toArray, List.map_cons, List.map_nil]); first | done | rfl | (simp only [List.length_drop, List.length_take]; rfl)) ?_; (with_reducible refine (gimballaw04_head.calls k  true _ A3.out).mono ?_); rintro e w6 ⟨rfl, hb⟩; refine ⟨_, rfl, ?_⟩; have n0_ := Aside0.mk (below_step (by repeat (first | (with_reducible first | exact HB.out | apply below_alloc | apply pw_below_drewN | apply below_drew1) | exact HB.out)) hb); clear HB; have HB := n0_; clear n0_; (try clear hb); (try clear hb2); (try clear hk); (try clear hi)))
    (try simp only [Act.put, List.setIfInBounds_toArray, List.set_cons_zero, List.set_cons_succ])
    go_cut [27] (fun v27 wc => ∃ (kq : Nat) (x27_4 : Bool), v27 = .bool x27_4 ∧ Aside0 (gimballaw04_SoftExact.j0 kq a0 a1 x27_4 = some r) ∧ Aside0 (kq ≤ k) ∧ Aside0 (Below w.heap.size w wc))
    case first =>
      have H := HC5.out
      clear HC5
      replace H := Option.bind_eq_some_iff.mp H
      obtain ⟨t555, A70, H⟩ := H
      replace H : (if t555 = true then ((word_Finite.f a1).bind fun t556 => (if t556 = true then ((word_Neg.f a0).bind fun t557 => ((word_Neg.f a1).bind fun t558 => (gimballaw04_SoftExact.j0 k a0 a1 (t557 != t558)))) else (gimballaw04_SoftExact.j0 k a0 a1 true))) else (gimballaw04_SoftExact.j0 k a0 a1 true)) = some r := H
      have A7 := Aside0.mk A70
      clear A70
      by_cases c8 : t555 = true
      · subst c8
        have H1 : ((word_Finite.f a1).bind fun t556 => (if t556 = true then ((word_Neg.f a0).bind fun t557 => ((word_Neg.f a1).bind fun t558 => (gimballaw04_SoftExact.j0 k a0 a1 (t557 != t558)))) else (gimballaw04_SoftExact.j0 k a0 a1 true))) = some r := by rw [if_pos rfl] at H; exact H
        clear H
        have H := H1
        clear H1
        replace H := Option.bind_eq_some_iff.mp H
        obtain ⟨t556, A90, H⟩ := H
        replace H : (if t556 = true then ((word_Neg.f a0).bind fun t557 => ((word_Neg.f a1).bind fun t558 => (gimballaw04_SoftExact.j0 k a0 a1 (t557 != t558)))) else (gimballaw04_SoftExact.j0 k a0 a1 true)) = some r := H
        have A9 := Aside0.mk A90
        clear A90
        by_cases c10 : t556 = true
        · subst c10
          have H1 : ((word_Neg.f a0).bind fun t557 => ((word_Neg.f a1).bind fun t558 => (gimballaw04_SoftExact.j0 k a0 a1 (t557 != t558)))) = some r := by rw [if_pos rfl] at H; exact H
          clear H
          have H := H1
          clear H1
          replace H := Option.bind_eq_some_iff.mp H
          obtain ⟨t557, A110, H⟩ := H
          replace H : ((word_Neg.f a1).bind fun t558 => (gimballaw04_SoftExact.j0 k a0 a1 (t557 != t558))) = some r := H
          have A11 := Aside0.mk A110
          clear A110
          replace H := Option.bind_eq_some_iff.mp H
          obtain ⟨t558, A120, H⟩ := H
          replace H : (gimballaw04_SoftExact.j0 k a0 a1 (t557 != t558)) = some r := H
          have A12 := Aside0.mk A120
          clear A120
          have H' := Aside0.mk H
          clear H
          go_wp2_with (first | ((with_reducible refine gate_callee (f := 18) rfl ?_); refine goesL_ (some 14) rfl rfl Try.func18 (by kernel_rfl) rfl #[.int .u64 a0] rfl (by (try simp only [List.map_toArray, List.map_cons, List.map_nil]); first | done | rfl | (simp only [List.length_drop, List.length_take]; rfl)) ?_; (with_reducible refine (word_Finite.calls a0 true _ A7.out).mono ?_); rintro e w' ⟨rfl, ⟨nd, rfl⟩⟩; refine ⟨_, rfl, ?_⟩) | (go_at_call 18; (with_reducible refine (word_Finite.calls a1 true _ A9.out).mono ?_); rintro e w' ⟨rfl, ⟨nd, rfl⟩⟩) | (go_at_call 19; (with_reducible refine (word_Neg.calls a0 t557 _ A11.out).mono ?_); rintro e w' ⟨rfl, ⟨nd, rfl⟩⟩) | (go_at_call 19; (with_reducible refine (word_Neg.calls a1 t558 _ A12.out).mono ?_); rintro e w' ⟨rfl, ⟨nd, rfl⟩⟩))
          go_meet
          case rel => exact ⟨_, ((t557 != t558)), (by first | rfl | (simp; done) | (simp [*]; done)), H', ⟨by first | omega | exact Nat.le_refl _⟩, ⟨by repeat (first | (with_reducible first | exact HB.out | apply below_alloc | apply pw_below_drewN | apply below_drew1) | exact HB.out)⟩⟩
        · replace c10 := Bool.eq_false_iff.mpr c10
          subst c10
          have H1 : (gimballaw04_SoftExact.j0 k a0 a1 true) = some r := by rw [if_neg (show ¬ (false = true) by decide)] at H; exact H
          clear H
          have H := H1
          clear H1
          have H' := Aside0.mk H
          clear H
          go_wp2_with (first | ((with_reducible refine gate_callee (f := 18) rfl ?_); refine goesL_ (some 14) rfl rfl Try.func18 (by kernel_rfl) rfl #[.int .u64 a0] rfl (by (try simp only [List.map_toArray, List.map_cons, List.map_nil]); first | done | rfl | (simp only [List.length_drop, List.length_take]; rfl)) ?_; (with_reducible refine (word_Finite.calls a0 true _ A7.out).mono ?_); rintro e w' ⟨rfl, ⟨nd, rfl⟩⟩; refine ⟨_, rfl, ?_⟩) | (go_at_call 18; (with_reducible refine (word_Finite.calls a1 false _ A9.out).mono ?_); rintro e w' ⟨rfl, ⟨nd, rfl⟩⟩))
          go_meet
          case rel => exact ⟨_, (true), (by first | rfl | (simp; done) | (simp [*]; done)), H', ⟨by first | omega | exact Nat.le_refl _⟩, ⟨by repeat (first | (with_reducible first | exact HB.out | apply below_alloc | apply pw_below_drewN | apply below_drew1) | exact HB.out)⟩⟩
      · replace c8 := Bool.eq_false_iff.mpr c8
        subst c8
        have H1 : (gimballaw04_SoftExact.j0 k a0 a1 true) = some r := by rw [if_neg (show ¬ (false = true) by decide)] at H; exact H
        clear H
        have H := H1
        clear H1
        have H' := Aside0.mk H
        clear H
        go_wp2_with (first | ((with_reducible refine gate_callee (f := 18) rfl ?_); refine goesL_ (some 14) rfl rfl Try.func18 (by kernel_rfl) rfl #[.int .u64 a0] rfl (by (try simp only [List.map_toArray, List.map_cons, List.map_nil]); first | done | rfl | (simp only [List.length_drop, List.length_take]; rfl)) ?_; (with_reducible refine (word_Finite.calls a0 false _ A7.out).mono ?_); rintro e w' ⟨rfl, ⟨nd, rfl⟩⟩; refine ⟨_, rfl, ?_⟩))
        go_meet
        case rel => exact ⟨_, (true), (by first | rfl | (simp; done) | (simp [*]; done)), H', ⟨by first | omega | exact Nat.le_refl _⟩, ⟨by repeat (first | (with_reducible first | exact HB.out | apply below_alloc | apply pw_below_drewN | apply below_drew1) | exact HB.out)⟩⟩
    case rest =>
      clear HC5
      try clear c1
      try clear p2
      try clear c4
      try clear c6
      try clear c8
      try clear c10
      try clear c11
      obtain ⟨kq, x27_4, rfl, HA, HJ4, HB⟩ := hcut
      cases kq with
      | zero => exact absurd HA.out (by simp [gimballaw04_SoftExact.j0])
      | succ kj4 =>
        have H := HA.out
        clear HA
        simp only [gimballaw04_SoftExact.j0] at H
        by_cases c13 : x27_4 = true
        · subst c13
          have H1 : (some true) = some r := by rw [if_pos rfl] at H; exact H
          clear H
          have H := H1
          clear H1
          obtain rfl := Option.some.inj H
          go_wp2
          go_ret
          exact ⟨by first | rfl | (simp [errW_none, errW_some] <;> rfl) | (simp [*, errW_none, errW_some] <;> rfl), by repeat (first | (with_reducible first | exact HB.out | apply below_alloc | apply pw_below_drewN | apply below_drew1) | exact HB.out)⟩
        · replace c13 := Bool.eq_false_iff.mpr c13
          subst c13
          have H1 : ((word_Abs.f a0).bind fun t559 => ((word_Abs.f a1).bind fun t560 => (if t559 < t560 then (gimballaw04_SoftExact.j1 kj4 a1 a0) else (gimballaw04_SoftExact.j1 kj4 a0 a1)))) = some r := by rw [if_neg (show ¬ (false = true) by decide)] at H; exact H
          clear H
          have H := H1
          clear H1
          replace H := Option.bind_eq_some_iff.mp H
          obtain ⟨t559, A140, H⟩ := H
          replace H : ((word_Abs.f a1).bind fun t560 => (if t559 < t560 then (gimballaw04_SoftExact.j1 kj4 a1 a0) else (gimballaw04_SoftExact.j1 kj4 a0 a1))) = some r := H
          have A14 := Aside0.mk A140
          clear A140
          replace H := Option.bind_eq_some_iff.mp H
          obtain ⟨t560, A150, H⟩ := H
          replace H : (if t559 < t560 then (gimballaw04_SoftExact.j1 kj4 a1 a0) else (gimballaw04_SoftExact.j1 kj4 a0 a1)) = some r := H
          have A15 := Aside0.mk A150
          clear A150
          have HC16 := Aside0.mk H
          clear H
          go_upto_if 32 with (first | ((with_reducible refine gate_callee (f := 20) rfl ?_); refine goesL_ (some 29) rfl rfl Try.func20 (by kernel_rfl) rfl #[.int .u64 a0] rfl (by (try simp only [List.map_toArray, List.map_cons, List.map_nil]); first | done | rfl | (simp only [List.length_drop, List.length_take]; rfl)) ?_; (with_reducible refine (word_Abs.calls a0 t559 _ A14.out).mono ?_); rintro e w' ⟨rfl, ⟨nd, rfl⟩⟩; refine ⟨_, rfl, ?_⟩) | ((with_reducible refine gate_callee (f := 20) rfl ?_); refine goesL_ (some 31) rfl rfl Try.func20 (by kernel_rfl) rfl #[.int .u64 a1] rfl (by (try simp only [List.map_toArray, List.map_cons, List.map_nil]); first | done | rfl | (simp only [List.length_drop, List.length_take]; rfl)) ?_; (with_reducible refine (word_Abs.calls a1 t560 _ A15.out).mono ?_); rintro e w' ⟨rfl, ⟨nd, rfl⟩⟩; refine ⟨_, rfl, ?_⟩))
          (try simp only [Act.put, List.setIfInBounds_toArray, List.set_cons_zero, List.set_cons_succ])
          go_cut [0, 1] (fun v0 v1 wc => ∃ (kq : Nat) (x0_15 : Int) (x1_15 : Int), v0 = .int .u64 x0_15 ∧ v1 = .int .u64 x1_15 ∧ Aside0 (gimballaw04_SoftExact.j1 kq x0_15 x1_15 = some r) ∧ Aside0 (kq ≤ kj4) ∧ Aside0 (Below w.heap.size w wc))
          case first =>
            have H := HC16.out
            clear HC16
            by_cases c17 : t559 < t560
            · rw [if_pos c17] at H
              have c17b0 : decide (t559 < t560) = true := decide_eq_true c17
              clear c17
              (first | rw [c17b0] | (simp only [i64_w, i32_w]; rw [c17b0]) | skip)
              have H' := Aside0.mk H
              clear H
              go_wp2
              go_meet
              case rel => exact ⟨_, (a1), (a0), (by first | rfl | (simp; done) | (simp [*]; done)), (by first | rfl | (simp; done) | (simp [*]; done)), H', ⟨by have := HJ4.out; first | omega | exact Nat.le_refl _⟩, ⟨by repeat (first | (with_reducible first | exact HB.out | apply below_alloc | apply pw_below_drewN | apply below_drew1) | exact HB.out)⟩⟩
            · rw [if_neg c17] at H
              have c17b0 : decide (t559 < t560) = false := decide_eq_false c17
              clear c17
              (first | rw [c17b0] | (simp only [i64_w, i32_w]; rw [c17b0]) | skip)
              have H' := Aside0.mk H
              clear H
              go_wp2
              go_meet
              case rel => exact ⟨_, (a0), (a1), (by first | rfl | (simp; done) | (simp [*]; done)), (by first | rfl | (simp; done) | (simp [*]; done)), H', ⟨by have := HJ4.out; first | omega | exact Nat.le_refl _⟩, ⟨by repeat (first | (with_reducible first | exact HB.out | apply below_alloc | apply pw_below_drewN | apply below_drew1) | exact HB.out)⟩⟩
          case rest =>
            clear HC16
            try clear c1
            try clear c2
            try clear p2
            try clear c4
            try clear c6
            try clear c8
            try clear c10
            try clear c11
            try clear c13
            try clear c17
            try clear c17b0
            try clear p2
            obtain ⟨kq, x0_15, x1_15, rfl, rfl, HA, HJ15, HB⟩ := hcut
            cases kq with
            | zero => exact absurd HA.out (by simp [gimballaw04_SoftExact.j1])
            | succ kj15 =>
              have H := HA.out
              clear HA
              simp only [gimballaw04_SoftExact.j1] at H
              replace H := Option.bind_eq_some_iff.mp H
              obtain ⟨⟨t561, t562⟩, A180, H⟩ := H
              replace H : (if t562 = 0 then ((word_Abs.f t561).bind fun t563 => ((word_Abs.f x0_15).bind fun t564 => (gimballaw04_SoftExact.j2 kj15 x0_15 x1_15 (decide (t563 < t564))))) else (gimballaw04_SoftExact.j2 kj15 x0_15 x1_15 true)) = some r := H
              have A18 := Aside0.mk A180
              clear A180
              have HC19 := Aside0.mk H
              clear H
              go_upto_region 8 with (first | ((with_reducible refine gate_callee (f := 12) rfl ?_); refine goesL_ (some 38) rfl rfl Try.func12 (by kernel_rfl) rfl #[.int .u64 x1_15, .int .u64 x1_15] rfl (by (try simp only [List.map_toArray, List.map_cons, List.map_nil]); first | done | rfl | (simp only [List.length_drop, List.length_take]; rfl)) ?_; (with_reducible refine (soft_Add.calls kj15 x1_15 x1_15 t561 t562 _ A18.out).mono ?_); rintro e w20 ⟨rfl, hb⟩; refine ⟨_, rfl, ?_⟩; have n0_ := Aside0.mk (below_step (by repeat (first | (with_reducible first | exact HB.out | apply below_alloc | apply pw_below_drewN | apply below_drew1) | exact HB.out)) hb); clear HB; have HB := n0_; clear n0_; (try clear hb); (try clear hb2); (try clear hk); (try clear hi)))
              (try simp only [Act.put, List.setIfInBounds_toArray, List.set_cons_zero, List.set_cons_succ])
              go_cut [49] (fun v49 wc => ∃ (kq : Nat) (x49_18 : Bool), v49 = .bool x49_18 ∧ Aside0 (gimballaw04_SoftExact.j2 kq x0_15 x1_15 x49_18 = some r) ∧ Aside0 (kq ≤ kj15) ∧ Aside0 (Below w.heap.size w wc))
              case first =>
                have H := HC19.out
                clear HC19
                by_cases c21 : t562 = 0
                · rw [if_pos c21] at H
                  have c21b0 : (t562 == 0) = true := beq_iff_eq.mpr c21
                  have c21b1 : (t562 != 0) = false := bne_eq_false_iff_eq.mpr c21
                  clear c21
                  (first | rw [c21b0] | (simp only [i64_w, i32_w]; rw [c21b0]) | skip)
                  replace H := Option.bind_eq_some_iff.mp H
                  obtain ⟨t563, A220, H⟩ := H
                  replace H : ((word_Abs.f x0_15).bind fun t564 => (gimballaw04_SoftExact.j2 kj15 x0_15 x1_15 (decide (t563 < t564)))) = some r := H
                  have A22 := Aside0.mk A220
                  clear A220
                  replace H := Option.bind_eq_some_iff.mp H
                  obtain ⟨t564, A230, H⟩ := H
                  replace H : (gimballaw04_SoftExact.j2 kj15 x0_15 x1_15 (decide (t563 < t564))) = some r := H
                  have A23 := Aside0.mk A230
                  clear A230
                  have H' := Aside0.mk H
                  clear H
                  go_wp2_with (first | (go_at_call 20; (with_reducible refine (word_Abs.calls t561 t563 _ A22.out).mono ?_); rintro e w' ⟨rfl, ⟨nd, rfl⟩⟩) | (go_at_call 20; (with_reducible refine (word_Abs.calls x0_15 t564 _ A23.out).mono ?_); rintro e w' ⟨rfl, ⟨nd, rfl⟩⟩))
                  go_meet
                  case rel => exact ⟨_, (decide (t563 < t564)), (by first | rfl | (simp; done) | (simp [*]; done)), H', ⟨by have := HJ4.out; have := HJ15.out; first | omega | exact Nat.le_refl _⟩, ⟨by repeat (first | (with_reducible first | exact HB.out | apply below_alloc | apply pw_below_drewN | apply below_drew1) | exact HB.out)⟩⟩
                · rw [if_neg c21] at H
                  have c21b0 : (t562 == 0) = false := beq_eq_false_iff_ne.mpr c21
                  have c21b1 : (t562 != 0) = true := bne_iff_ne.mpr c21
                  (first | rw [c21b0] | (simp only [i64_w, i32_w]; rw [c21b0]) | skip)
                  have H' := Aside0.mk H
                  clear H
                  go_wp2
                  go_meet
                  case rel => exact ⟨_, (true), (by first | rfl | (simp; done) | (simp [*]; done)), H', ⟨by have := HJ4.out; have := HJ15.out; first | omega | exact Nat.le_refl _⟩, ⟨by repeat (first | (with_reducible first | exact HB.out | apply below_alloc | apply pw_below_drewN | apply below_drew1) | exact HB.out)⟩⟩
              case rest =>
                clear HC19
                try clear c1
                try clear c2
                try clear p2
                try clear c4
                try clear c6
                try clear c8
                try clear c10
                try clear c11
                try clear c12
                try clear c13
                try clear c17
                try clear c17b0
                try clear c18
                try clear c20
                try clear c21
                try clear c21b0
                try clear c21b1
                try clear p2
                obtain ⟨kq, x49_18, rfl, HA, HJ18, HB⟩ := hcut
                cases kq with
                | zero => exact absurd HA.out (by simp [gimballaw04_SoftExact.j2])
                | succ kj18 =>
                  have H := HA.out
                  clear HA
                  simp only [gimballaw04_SoftExact.j2] at H
                  by_cases c24 : x49_18 = true
                  · subst c24
                    have H1 : (some true) = some r := by rw [if_pos rfl] at H; exact H
                    clear H
                    have H := H1
                    clear H1
                    obtain rfl := Option.some.inj H
                    go_wp2
                    go_ret
                    exact ⟨by first | rfl | (simp [errW_none, errW_some] <;> rfl) | (simp [*, errW_none, errW_some] <;> rfl), by repeat (first | (with_reducible first | exact HB.out | apply below_alloc | apply pw_below_drewN | apply below_drew1) | exact HB.out)⟩
                  · replace c24 := Bool.eq_false_iff.mpr c24
                    subst c24
                    have H1 : ((soft_Sub.f kj18 x0_15 x1_15).bind fun bt565 => ((soft_Add.f kj18 bt565.1 x1_15).bind fun bt567 => (if bt565.2 = 0 then (if bt567.2 = 0 then (if bt567.1 = x0_15 then (some true) else ((word_Abs.f bt567.1).bind fun t569 => (if t569 = 0 then ((word_Abs.f x0_15).bind fun t570 => (some (t570 == 0))) else (some false)))) else (some false)) else (some false)))) = some r := by rw [if_neg (show ¬ (false = true) by decide)] at H; exact H
                    clear H
                    have H := H1
                    clear H1
                    replace H := Option.bind_eq_some_iff.mp H
                    obtain ⟨⟨t565, t566⟩, A250, H⟩ := H
                    replace H : ((soft_Add.f kj18 t565 x1_15).bind fun bt567 => (if t566 = 0 then (if bt567.2 = 0 then (if bt567.1 = x0_15 then (some true) else ((word_Abs.f bt567.1).bind fun t569 => (if t569 = 0 then ((word_Abs.f x0_15).bind fun t570 => (some (t570 == 0))) else (some false)))) else (some false)) else (some false))) = some r := H
                    have A25 := Aside0.mk A250
                    clear A250
                    replace H := Option.bind_eq_some_iff.mp H
                    obtain ⟨⟨t567, t568⟩, A260, H⟩ := H
                    replace H : (if t566 = 0 then (if t568 = 0 then (if t567 = x0_15 then (some true) else ((word_Abs.f t567).bind fun t569 => (if t569 = 0 then ((word_Abs.f x0_15).bind fun t570 => (some (t570 == 0))) else (some false)))) else (some false)) else (some false)) = some r := H
                    have A26 := Aside0.mk A260
                    clear A260
                    by_cases c27 : t566 = 0
                    · rw [if_pos c27] at H
                      have c27b0 : (t566 == 0) = true := beq_iff_eq.mpr c27
                      have c27b1 : (t566 != 0) = false := bne_eq_false_iff_eq.mpr c27
                      clear c27
                      by_cases c28 : t568 = 0
                      · rw [if_pos c28] at H
                        have c28b0 : (t568 == 0) = true := beq_iff_eq.mpr c28
                        have c28b1 : (t568 != 0) = false := bne_eq_false_iff_eq.mpr c28
                        clear c28
                        by_cases c29 : t567 = x0_15
                        · rw [if_pos c29] at H
                          have c29b0 : (t567 == x0_15) = true := beq_iff_eq.mpr c29
                          have c29b1 : (t567 != x0_15) = false := bne_eq_false_iff_eq.mpr c29
                          clear c29
                          obtain rfl := Option.some.inj H
                          go_wp2_with (first | ((with_reducible refine gate_callee (f := 14) rfl ?_); refine goesL_ (some 53) rfl rfl Try.func14 (by kernel_rfl) rfl #[.int .u64 x0_15, .int .u64 x1_15] rfl (by (try simp only [List.map_toArray, List.map_cons, List.map_nil]); first | done | rfl | (simp only [List.length_drop, List.length_take]; rfl)) ?_; (with_reducible refine (soft_Sub.calls kj18 x0_15 x1_15 t565 t566 _ A25.out).mono ?_); rintro e w30 ⟨rfl, hb⟩; refine ⟨_, rfl, ?_⟩; have n0_ := Aside0.mk (below_step (by repeat (first | (with_reducible first | exact HB.out | apply below_alloc | apply pw_below_drewN | apply below_drew1) | exact HB.out)) hb); clear HB; have HB := n0_; clear n0_; (try clear hb); (try clear hb2); (try clear hk); (try clear hi)) | ((with_reducible refine gate_callee (f := 12) rfl ?_); refine goesL_ (some 59) rfl rfl Try.func12 (by kernel_rfl) rfl #[.int .u64 t565, .int .u64 x1_15] rfl (by (try simp only [List.map_toArray, List.map_cons, List.map_nil]); first | done | rfl | (simp only [List.length_drop, List.length_take]; rfl)) ?_; (with_reducible refine (soft_Add.calls kj18 t565 x1_15 t567 t568 _ A26.out).mono ?_); rintro e w31 ⟨rfl, hb⟩; refine ⟨_, rfl, ?_⟩; have n0_ := Aside0.mk (below_step (by repeat (first | (with_reducible first | exact HB.out | apply below_alloc | apply pw_below_drewN | apply below_drew1) | exact HB.out)) hb); clear HB; have HB := n0_; clear n0_; (try clear hb); (try clear hb2); (try clear hk); (try clear hi)))
                          go_ret
                          exact ⟨by first | rfl | (simp [errW_none, errW_some] <;> rfl) | (simp [*, errW_none, errW_some] <;> rfl), by repeat (first | (with_reducible first | exact HB.out | apply below_alloc | apply pw_below_drewN | apply below_drew1) | exact HB.out)⟩
                        · rw [if_neg c29] at H
                          have c29b0 : (t567 == x0_15) = false := beq_eq_false_iff_ne.mpr c29
                          have c29b1 : (t567 != x0_15) = true := bne_iff_ne.mpr c29
                          replace H := Option.bind_eq_some_iff.mp H
                          obtain ⟨t569, A320, H⟩ := H
                          replace H : (if t569 = 0 then ((word_Abs.f x0_15).bind fun t570 => (some (t570 == 0))) else (some false)) = some r := H
                          have A32 := Aside0.mk A320
                          clear A320
                          by_cases c33 : t569 = 0
                          · rw [if_pos c33] at H
                            have c33b0 : (t569 == 0) = true := beq_iff_eq.mpr c33
                            have c33b1 : (t569 != 0) = false := bne_eq_false_iff_eq.mpr c33
                            clear c33
                            replace H := Option.bind_eq_some_iff.mp H
                            obtain ⟨t570, A340, H⟩ := H
                            replace H : (some (t570 == 0)) = some r := H
                            have A34 := Aside0.mk A340
                            clear A340
                            obtain rfl := Option.some.inj H
                            go_wp2_with (first | ((with_reducible refine gate_callee (f := 14) rfl ?_); refine goesL_ (some 53) rfl rfl Try.func14 (by kernel_rfl) rfl #[.int .u64 x0_15, .int .u64 x1_15] rfl (by (try simp only [List.map_toArray, List.map_cons, List.map_nil]); first | done | rfl | (simp only [List.length_drop, List.length_take]; rfl)) ?_; (with_reducible refine (soft_Sub.calls kj18 x0_15 x1_15 t565 t566 _ A25.out).mono ?_); rintro e w35 ⟨rfl, hb⟩; refine ⟨_, rfl, ?_⟩; have n0_ := Aside0.mk (below_step (by repeat (first | (with_reducible first | exact HB.out | apply below_alloc | apply pw_below_drewN | apply below_drew1) | exact HB.out)) hb); clear HB; have HB := n0_; clear n0_; (try clear hb); (try clear hb2); (try clear hk); (try clear hi)) | ((with_reducible refine gate_callee (f := 12) rfl ?_); refine goesL_ (some 59) rfl rfl Try.func12 (by kernel_rfl) rfl #[.int .u64 t565, .int .u64 x1_15] rfl (by (try simp only [List.map_toArray, List.map_cons, List.map_nil]); first | done | rfl | (simp only [List.length_drop, List.length_take]; rfl)) ?_; (with_reducible refine (soft_Add.calls kj18 t565 x1_15 t567 t568 _ A26.out).mono ?_); rintro e w36 ⟨rfl, hb⟩; refine ⟨_, rfl, ?_⟩; have n0_ := Aside0.mk (below_step (by repeat (first | (with_reducible first | exact HB.out | apply below_alloc | apply pw_below_drewN | apply below_drew1) | exact HB.out)) hb); clear HB; have HB := n0_; clear n0_; (try clear hb); (try clear hb2); (try clear hk); (try clear hi)) | (go_at_call 20; (with_reducible refine (word_Abs.calls t567 t569 _ A32.out).mono ?_); rintro e w' ⟨rfl, ⟨nd, rfl⟩⟩) | (go_at_call 20; (with_reducible refine (word_Abs.calls x0_15 t570 _ A34.out).mono ?_); rintro e w' ⟨rfl, ⟨nd, rfl⟩⟩))
                            go_ret
                            exact ⟨by first | rfl | (simp [errW_none, errW_some] <;> rfl) | (simp [*, errW_none, errW_some] <;> rfl), by repeat (first | (with_reducible first | exact HB.out | apply below_alloc | apply pw_below_drewN | apply below_drew1) | exact HB.out)⟩
                          · rw [if_neg c33] at H
                            have c33b0 : (t569 == 0) = false := beq_eq_false_iff_ne.mpr c33
                            have c33b1 : (t569 != 0) = true := bne_iff_ne.mpr c33
                            obtain rfl := Option.some.inj H
                            go_wp2_with (first | ((with_reducible refine gate_callee (f := 14) rfl ?_); refine goesL_ (some 53) rfl rfl Try.func14 (by kernel_rfl) rfl #[.int .u64 x0_15, .int .u64 x1_15] rfl (by (try simp only [List.map_toArray, List.map_cons, List.map_nil]); first | done | rfl | (simp only [List.length_drop, List.length_take]; rfl)) ?_; (with_reducible refine (soft_Sub.calls kj18 x0_15 x1_15 t565 t566 _ A25.out).mono ?_); rintro e w37 ⟨rfl, hb⟩; refine ⟨_, rfl, ?_⟩; have n0_ := Aside0.mk (below_step (by repeat (first | (with_reducible first | exact HB.out | apply below_alloc | apply pw_below_drewN | apply below_drew1) | exact HB.out)) hb); clear HB; have HB := n0_; clear n0_; (try clear hb); (try clear hb2); (try clear hk); (try clear hi)) | ((with_reducible refine gate_callee (f := 12) rfl ?_); refine goesL_ (some 59) rfl rfl Try.func12 (by kernel_rfl) rfl #[.int .u64 t565, .int .u64 x1_15] rfl (by (try simp only [List.map_toArray, List.map_cons, List.map_nil]); first | done | rfl | (simp only [List.length_drop, List.length_take]; rfl)) ?_; (with_reducible refine (soft_Add.calls kj18 t565 x1_15 t567 t568 _ A26.out).mono ?_); rintro e w38 ⟨rfl, hb⟩; refine ⟨_, rfl, ?_⟩; have n0_ := Aside0.mk (below_step (by repeat (first | (with_reducible first | exact HB.out | apply below_alloc | apply pw_below_drewN | apply below_drew1) | exact HB.out)) hb); clear HB; have HB := n0_; clear n0_; (try clear hb); (try clear hb2); (try clear hk); (try clear hi)) | (go_at_call 20; (with_reducible refine (word_Abs.calls t567 t569 _ A32.out).mono ?_); rintro e w' ⟨rfl, ⟨nd, rfl⟩⟩))
                            go_ret
                            exact ⟨by first | rfl | (simp [errW_none, errW_some] <;> rfl) | (simp [*, errW_none, errW_some] <;> rfl), by repeat (first | (with_reducible first | exact HB.out | apply below_alloc | apply pw_below_drewN | apply below_drew1) | exact HB.out)⟩
                      · rw [if_neg c28] at H
                        have c28b0 : (t568 == 0) = false := beq_eq_false_iff_ne.mpr c28
                        have c28b1 : (t568 != 0) = true := bne_iff_ne.mpr c28
                        obtain rfl := Option.some.inj H
                        go_wp2_with (first | ((with_reducible refine gate_callee (f := 14) rfl ?_); refine goesL_ (some 53) rfl rfl Try.func14 (by kernel_rfl) rfl #[.int .u64 x0_15, .int .u64 x1_15] rfl (by (try simp only [List.map_toArray, List.map_cons, List.map_nil]); first | done | rfl | (simp only [List.length_drop, List.length_take]; rfl)) ?_; (with_reducible refine (soft_Sub.calls kj18 x0_15 x1_15 t565 t566 _ A25.out).mono ?_); rintro e w39 ⟨rfl, hb⟩; refine ⟨_, rfl, ?_⟩; have n0_ := Aside0.mk (below_step (by repeat (first | (with_reducible first | exact HB.out | apply below_alloc | apply pw_below_drewN | apply below_drew1) | exact HB.out)) hb); clear HB; have HB := n0_; clear n0_; (try clear hb); (try clear hb2); (try clear hk); (try clear hi)) | ((with_reducible refine gate_callee (f := 12) rfl ?_); refine goesL_ (some 59) rfl rfl Try.func12 (by kernel_rfl) rfl #[.int .u64 t565, .int .u64 x1_15] rfl (by (try simp only [List.map_toArray, List.map_cons, List.map_nil]); first | done | rfl | (simp only [List.length_drop, List.length_take]; rfl)) ?_; (with_reducible refine (soft_Add.calls kj18 t565 x1_15 t567 t568 _ A26.out).mono ?_); rintro e w40 ⟨rfl, hb⟩; refine ⟨_, rfl, ?_⟩; have n0_ := Aside0.mk (below_step (by repeat (first | (with_reducible first | exact HB.out | apply below_alloc | apply pw_below_drewN | apply below_drew1) | exact HB.out)) hb); clear HB; have HB := n0_; clear n0_; (try clear hb); (try clear hb2); (try clear hk); (try clear hi)))
                        go_ret
                        exact ⟨by first | rfl | (simp [errW_none, errW_some] <;> rfl) | (simp [*, errW_none, errW_some] <;> rfl), by repeat (first | (with_reducible first | exact HB.out | apply below_alloc | apply pw_below_drewN | apply below_drew1) | exact HB.out)⟩
                    · rw [if_neg c27] at H
                      have c27b0 : (t566 == 0) = false := beq_eq_false_iff_ne.mpr c27
                      have c27b1 : (t566 != 0) = true := bne_iff_ne.mpr c27
                      obtain rfl := Option.some.inj H
                      go_wp2_with (first | ((with_reducible refine gate_callee (f := 14) rfl ?_); refine goesL_ (some 53) rfl rfl Try.func14 (by kernel_rfl) rfl #[.int .u64 x0_15, .int .u64 x1_15] rfl (by (try simp only [List.map_toArray, List.map_cons, List.map_nil]); first | done | rfl | (simp only [List.length_drop, List.length_take]; rfl)) ?_; (with_reducible refine (soft_Sub.calls kj18 x0_15 x1_15 t565 t566 _ A25.out).mono ?_); rintro e w41 ⟨rfl, hb⟩; refine ⟨_, rfl, ?_⟩; have n0_ := Aside0.mk (below_step (by repeat (first | (with_reducible first | exact HB.out | apply below_alloc | apply pw_below_drewN | apply below_drew1) | exact HB.out)) hb); clear HB; have HB := n0_; clear n0_; (try clear hb); (try clear hb2); (try clear hk); (try clear hi)) | ((with_reducible refine gate_callee (f := 12) rfl ?_); refine goesL_ (some 59) rfl rfl Try.func12 (by kernel_rfl) rfl #[.int .u64 t565, .int .u64 x1_15] rfl (by (try simp only [List.map_toArray, List.map_cons, List.map_nil]); first | done | rfl | (simp only [List.length_drop, List.length_take]; rfl)) ?_; (with_reducible refine (soft_Add.calls kj18 t565 x1_15 t567 t568 _ A26.out).mono ?_); rintro e w42 ⟨rfl, hb⟩; refine ⟨_, rfl, ?_⟩; have n0_ := Aside0.mk (below_step (by repeat (first | (with_reducible first | exact HB.out | apply below_alloc | apply pw_below_drewN | apply below_drew1) | exact HB.out)) hb); clear HB; have HB := n0_; clear n0_; (try clear hb); (try clear hb2); (try clear hk); (try clear hi)))
                      go_ret
                      exact ⟨by first | rfl | (simp [errW_none, errW_some] <;> rfl) | (simp [*, errW_none, errW_some] <;> rfl), by repeat (first | (with_reducible first | exact HB.out | apply below_alloc | apply pw_below_drewN | apply below_drew1) | exact HB.out)⟩
  · replace c4 := Bool.eq_false_iff.mpr c4
    subst c4
    have H1 : (some false) = some r := by rw [if_neg (show ¬ (false = true) by decide)] at H; exact H
    clear H
    have H := H1
    clear H1
    obtain rfl := Option.some.inj H
    go_enter Try.func6, Try.ntmps6
    go_wp2_with (first | ((with_reducible refine gate_callee (f := 11) rfl ?_); refine goesL_ (some 11) rfl rfl Try.func11 (by kernel_rfl) rfl #[] rfl (by (try simp only [List.map_toArray, List.map_cons, List.map_nil]); first | done | rfl | (simp only [List.length_drop, List.length_take]; rfl)) ?_; (with_reducible refine (gimballaw04_head.calls k  false _ A3.out).mono ?_); rintro e w43 ⟨rfl, hb⟩; refine ⟨_, rfl, ?_⟩; have n0_ := Aside0.mk (below_step (by repeat (first | (with_reducible first | exact HB.out | apply below_alloc | apply pw_below_drewN | apply below_drew1) | exact HB.out)) hb); clear HB; have HB := n0_; clear n0_; (try clear hb); (try clear hb2); (try clear hk); (try clear hi)))
    go_ret
    exact ⟨by first | rfl | (simp [errW_none, errW_some] <;> rfl) | (simp [*, errW_none, errW_some] <;> rfl), by repeat (first | (with_reducible first | exact HB.out | apply below_alloc | apply pw_below_drewN | apply below_drew1) | exact HB.out)⟩

/-- THE ONE PURE STATEMENT of gimballaw04_SoftExact: yours. -/
def gimballaw04_SoftExact.Pure : Prop := ∀ (a0 : Int) (a1 : Int), (Lit.int .u64 a0).wf = true → (Lit.int .u64 a1).wf = true → ∃ k, gimballaw04_SoftExact.f k a0 a1 = some true
theorem gimballaw04_SoftExact.walk (P : gimballaw04_SoftExact.Pure) (a0 : Int) (a1 : Int) (w : World) (w0 : (Lit.int .u64 a0).wf = true) (w1 : (Lit.int .u64 a1).wf = true) :
    Calls Try.prog 6 #[.int .u64 a0, .int .u64 a1] w fun e w' => e = .returned (.bool true) ∧ Below w.heap.size w w' := by
  obtain ⟨k, h⟩ := P a0 a1 w0 w1
  refine (gimballaw04_SoftExact.calls k a0 a1 true w h).mono ?_
  rintro e w' ⟨rfl, hd⟩
  exact ⟨rfl, hd⟩

end Go.Proofs.Ytfbnojelmdcnoaa.F
