-- Written by a program of this seat's session (mkprint), out of the translation.
import Derived.Test.YtcappkphcjgeoaaShort
import Derived.Test.YtcappkphcjgeoaaFx0
import Derived.Test.YtcappkphcjgeoaaFx6
import Derived.Test.YtcappkphcjgeoaaFx9
import Derived.Test.YtcappkphcjgeoaaFx10
import Derived.Test.YtcappkphcjgeoaaFx11
import Derived.Test.YtcappkphcjgeoaaFx14
namespace Go.Proofs.Ytcappkphcjgeoaa.F
open Go.RowKit Go.Proofs.YtcappkphcjgeoaaW.PrintWords Go.Proofs.YtcappkphcjgeoaaW.PrintLast Go.Proofs.YtcappkphcjgeoaaW.PrintMore
attribute [local go_sem] max2_int min2_int max_two min_two max_three min_three max_four min_four   -- for this text's walks alone
set_option linter.unusedVariables false
set_option linter.unusedSimpArgs false

/-! ### gimbalref04_Signed: function 61 -/
def gimbalref04_Signed.f (a0 : Bool) (a1 : Int) : Option (Int) := if a0 = true then (some (IntKind.u64.wrap (a1 + 9223372036854775808))) else (some a1)
set_option maxHeartbeats 8000000 in
set_option maxRecDepth 100000 in
theorem gimbalref04_Signed.calls (a0 : Bool) (a1 : Int) (r : Int) (w : World) (h : gimbalref04_Signed.f a0 a1 = some r) :
  Calls Try.prog 61 #[.bool a0, .int .u64 a1] w fun e w' => e = .returned (.int .u64 r) ∧ Drawn0 w w' := by
 have H : (if a0 = true then (some (IntKind.u64.wrap (a1 + 9223372036854775808))) else (some a1)) = some r := h
 clear h
 by_cases c3 : a0 = true
 ·
  subst c3
  rw [if_pos rfl] at H
  obtain rfl := Option.some.inj H
  go_enter Try.func61, Try.ntmps61
  go_wp2
  go_ret
  exact ⟨by first | rfl | (simp; done) | (simp [*]; done), by repeat (first | exact Drawn0.refl _ | apply Drawn0.step)⟩
 ·
  replace c3 := Bool.eq_false_iff.mpr c3
  subst c3
  rw [if_neg (show ¬ (false = true) by decide)] at H
  obtain rfl := Option.some.inj H
  go_enter Try.func61, Try.ntmps61
  go_wp2
  go_ret
  exact ⟨by first | rfl | (simp; done) | (simp [*]; done), by repeat (first | exact Drawn0.refl _ | apply Drawn0.step)⟩

/-! ### gimbalref04_Add: function 60 -/
mutual
def gimbalref04_Add.j0 : Nat → Int → Int → Bool → Option (Int × Int)
 | 0, _, _, _ => none
 | k + 1, x0, x1, x27 => if x27 = true then (if x0 = x1 then (some (x0, 0)) else (some (9221120237041090560, 16))) else ((gimbalref04_IsInf.f x0).bind fun t668 => (if t668 = true then (some (x0, 0)) else ((gimbalref04_IsInf.f x1).bind fun t669 => (if t669 = true then (some (x1, 0)) else ((gimbalref04_IsZero.f x0).bind fun t670 => (if t670 = true then ((gimbalref04_IsZero.f x1).bind fun t671 => (gimbalref04_Add.j1 k x0 x1 t671)) else (gimbalref04_Add.j1 k x0 x1 false)))))))
def gimbalref04_Add.j1 : Nat → Int → Int → Bool → Option (Int × Int)
 | 0, _, _, _ => none
 | k + 1, x0, x1, x43 => if x43 = true then ((gimbalref04_Neg.f x0).bind fun t672 => (if t672 = true then ((gimbalref04_Neg.f x1).bind fun t673 => ((gimbalref04_Signed.f t673 0).bind fun t674 => (some (t674, 0)))) else ((gimbalref04_Signed.f false 0).bind fun t675 => (some (t675, 0))))) else ((gimbalref04_Whole.f k x0).bind fun t676 => ((gimbalref04_Whole.f k x1).bind fun t679 => ((gimbalref04_Neg.f x0).bind fun t682 => ((gimbalref02_Add.f k t676 t679).bind fun t683 => ((gimbalref04_Neg.f x0).bind fun t686 => ((gimbalref04_Neg.f x1).bind fun t687 => (if (t686 != t687) = true then ((gimbalref02_Cmp.f k t676 t679).bind fun t688 => (if t688 < 0 then ((gimbalref04_Neg.f x1).bind fun t689 => (gimbalref04_Add.j2 k t679 t676 t689)) else (gimbalref04_Add.j2 k t676 t679 t682))) else ((gimbalref03_Round.f k t682 t683 (-1074) false).bind fun bt696 => (some (bt696.1, bt696.2))))))))))
def gimbalref04_Add.j2 : Nat → List Int → List Int → Bool → Option (Int × Int)
 | 0, _, _, _ => none
 | k + 1, x8, x9, x10 => (gimbalref02_Sub.f k x8 x9).bind fun t690 => (if (t690.length : Int) = 0 then (some (0, 0)) else ((gimbalref03_Round.f k x10 t690 (-1074) false).bind fun bt693 => (some (bt693.1, bt693.2))))
end
def gimbalref04_Add.f (k : Nat) (a0 : Int) (a1 : Int) : Option (Int × Int) := (gimbalref04_Nans.f k (([a0, a1] : List Int))).bind fun bt664 => (if bt664.2 = true then (some (9221120237041090560, bt664.1)) else ((gimbalref04_IsInf.f a0).bind fun t666 => (if t666 = true then ((gimbalref04_IsInf.f a1).bind fun t667 => (gimbalref04_Add.j0 k a0 a1 t667)) else (gimbalref04_Add.j0 k a0 a1 false))))
theorem gimbalref04_Add.mono_l : ∀ k, (∀ y0 y1 y2, LeO (gimbalref04_Add.j0 k y0 y1 y2) (gimbalref04_Add.j0 (k + 1) y0 y1 y2)) ∧ (∀ y0 y1 y2, LeO (gimbalref04_Add.j1 k y0 y1 y2) (gimbalref04_Add.j1 (k + 1) y0 y1 y2)) ∧ (∀ y0 y1 y2, LeO (gimbalref04_Add.j2 k y0 y1 y2) (gimbalref04_Add.j2 (k + 1) y0 y1 y2))
 | 0 => ⟨fun _ _ _ r h => by simp [gimbalref04_Add.j0] at h, fun _ _ _ r h => by simp [gimbalref04_Add.j1] at h, fun _ _ _ r h => by simp [gimbalref04_Add.j2] at h⟩
 | k + 1 => by
  obtain ⟨ih0, ih1, ih2⟩ := gimbalref04_Add.mono_l k
  refine ⟨?_, ?_, ?_⟩
  ·
   intro y0 y1 y2
   unfold gimbalref04_Add.j0
   repeat' first
   | (with_reducible exact ih0 _ _ _)
   | (with_reducible exact ih1 _ _ _)
   | (with_reducible exact ih2 _ _ _)
   | (with_reducible exact gimbalref02_Add.mono _ _ _)
   | (with_reducible exact gimbalref02_Cmp.mono _ _ _)
   | (with_reducible exact gimbalref02_Sub.mono _ _ _)
   | (with_reducible exact gimbalref03_Round.mono _ _ _ _ _)
   | (with_reducible exact gimbalref04_Nans.mono _ _)
   | (with_reducible exact gimbalref04_Whole.mono _ _)
   | (with_reducible exact LeO.refl _)
   | (with_reducible exact LeO.none _)
   | (with_reducible refine LeO.ite ?_ ?_)
   | (with_reducible refine LeO.bind ?_ (fun _ => ?_))
   | exact ih0 _ _ _
   | exact ih1 _ _ _
   | exact ih2 _ _ _
   | exact gimbalref02_Add.mono _ _ _
   | exact gimbalref02_Cmp.mono _ _ _
   | exact gimbalref02_Sub.mono _ _ _
   | exact gimbalref03_Round.mono _ _ _ _ _
   | exact gimbalref04_Nans.mono _ _
   | exact gimbalref04_Whole.mono _ _
   | exact LeO.none _
   | refine LeO.ite ?_ ?_
   | refine LeO.bind ?_ (fun _ => ?_)
  ·
   intro y0 y1 y2
   unfold gimbalref04_Add.j1
   repeat' first
   | (with_reducible exact ih0 _ _ _)
   | (with_reducible exact ih1 _ _ _)
   | (with_reducible exact ih2 _ _ _)
   | (with_reducible exact gimbalref02_Add.mono _ _ _)
   | (with_reducible exact gimbalref02_Cmp.mono _ _ _)
   | (with_reducible exact gimbalref02_Sub.mono _ _ _)
   | (with_reducible exact gimbalref03_Round.mono _ _ _ _ _)
   | (with_reducible exact gimbalref04_Nans.mono _ _)
   | (with_reducible exact gimbalref04_Whole.mono _ _)
   | (with_reducible exact LeO.refl _)
   | (with_reducible exact LeO.none _)
   | (with_reducible refine LeO.ite ?_ ?_)
   | (with_reducible refine LeO.bind ?_ (fun _ => ?_))
   | exact ih0 _ _ _
   | exact ih1 _ _ _
   | exact ih2 _ _ _
   | exact gimbalref02_Add.mono _ _ _
   | exact gimbalref02_Cmp.mono _ _ _
   | exact gimbalref02_Sub.mono _ _ _
   | exact gimbalref03_Round.mono _ _ _ _ _
   | exact gimbalref04_Nans.mono _ _
   | exact gimbalref04_Whole.mono _ _
   | exact LeO.none _
   | refine LeO.ite ?_ ?_
   | refine LeO.bind ?_ (fun _ => ?_)
  ·
   intro y0 y1 y2
   unfold gimbalref04_Add.j2
   repeat' first
   | (with_reducible exact ih0 _ _ _)
   | (with_reducible exact ih1 _ _ _)
   | (with_reducible exact ih2 _ _ _)
   | (with_reducible exact gimbalref02_Add.mono _ _ _)
   | (with_reducible exact gimbalref02_Cmp.mono _ _ _)
   | (with_reducible exact gimbalref02_Sub.mono _ _ _)
   | (with_reducible exact gimbalref03_Round.mono _ _ _ _ _)
   | (with_reducible exact gimbalref04_Nans.mono _ _)
   | (with_reducible exact gimbalref04_Whole.mono _ _)
   | (with_reducible exact LeO.refl _)
   | (with_reducible exact LeO.none _)
   | (with_reducible refine LeO.ite ?_ ?_)
   | (with_reducible refine LeO.bind ?_ (fun _ => ?_))
   | exact ih0 _ _ _
   | exact ih1 _ _ _
   | exact ih2 _ _ _
   | exact gimbalref02_Add.mono _ _ _
   | exact gimbalref02_Cmp.mono _ _ _
   | exact gimbalref02_Sub.mono _ _ _
   | exact gimbalref03_Round.mono _ _ _ _ _
   | exact gimbalref04_Nans.mono _ _
   | exact gimbalref04_Whole.mono _ _
   | exact LeO.none _
   | refine LeO.ite ?_ ?_
   | refine LeO.bind ?_ (fun _ => ?_)
theorem gimbalref04_Add.mono : ∀ a0 a1 k, LeO (gimbalref04_Add.f k a0 a1) (gimbalref04_Add.f (k + 1) a0 a1) := by
 intro a0 a1 k
 obtain ⟨ih0, ih1, ih2⟩ := gimbalref04_Add.mono_l k
 unfold gimbalref04_Add.f
 repeat' first
   | (with_reducible exact ih0 _ _ _)
   | (with_reducible exact ih1 _ _ _)
   | (with_reducible exact ih2 _ _ _)
   | (with_reducible exact gimbalref02_Add.mono _ _ _)
   | (with_reducible exact gimbalref02_Cmp.mono _ _ _)
   | (with_reducible exact gimbalref02_Sub.mono _ _ _)
   | (with_reducible exact gimbalref03_Round.mono _ _ _ _ _)
   | (with_reducible exact gimbalref04_Nans.mono _ _)
   | (with_reducible exact gimbalref04_Whole.mono _ _)
   | (with_reducible exact LeO.refl _)
   | (with_reducible exact LeO.none _)
   | (with_reducible refine LeO.ite ?_ ?_)
   | (with_reducible refine LeO.bind ?_ (fun _ => ?_))
   | exact ih0 _ _ _
   | exact ih1 _ _ _
   | exact ih2 _ _ _
   | exact gimbalref02_Add.mono _ _ _
   | exact gimbalref02_Cmp.mono _ _ _
   | exact gimbalref02_Sub.mono _ _ _
   | exact gimbalref03_Round.mono _ _ _ _ _
   | exact gimbalref04_Nans.mono _ _
   | exact gimbalref04_Whole.mono _ _
   | exact LeO.none _
   | refine LeO.ite ?_ ?_
   | refine LeO.bind ?_ (fun _ => ?_)
set_option maxHeartbeats 8000000 in
set_option maxRecDepth 100000 in
theorem gimbalref04_Add.calls (k : Nat) (a0 : Int) (a1 : Int) (r1 : Int) (r2 : Int) (w : World) (h : gimbalref04_Add.f k a0 a1 = some (r1, r2)) :
  Calls Try.prog 60 #[.int .u64 a0, .int .u64 a1] w fun e w' => e = .returned (.tuple #[.int .u64 r1, .int .i64 r2]) ∧ Below w.heap.size w w' := by
 have hu66 := Try.underlying66
 have HB := Aside0.mk (Below.refl w.heap.size w)
 have H : ((gimbalref04_Nans.f k (([a0, a1] : List Int))).bind fun bt664 => (if bt664.2 = true then (some (9221120237041090560, bt664.1)) else ((gimbalref04_IsInf.f a0).bind fun t666 => (if t666 = true then ((gimbalref04_IsInf.f a1).bind fun t667 => (gimbalref04_Add.j0 k a0 a1 t667)) else (gimbalref04_Add.j0 k a0 a1 false))))) = some (r1, r2) := h
 clear h
 obtain ⟨y661, hy661⟩ : ∃ y_ : List Int, y_ = (([a0, a1] : List Int)) := ⟨_, rfl⟩
 replace H : ((gimbalref04_Nans.f k y661).bind fun bt664 => (if bt664.2 = true then (some (9221120237041090560, bt664.1)) else ((gimbalref04_IsInf.f a0).bind fun t666 => (if t666 = true then ((gimbalref04_IsInf.f a1).bind fun t667 => (gimbalref04_Add.j0 k a0 a1 t667)) else (gimbalref04_Add.j0 k a0 a1 false))))) = some (r1, r2) := by first | (rw [hy661]; with_reducible exact H) | (have H2_ := (Option.bind_some _ _).symm.trans H; rw [hy661]; with_reducible exact H2_) | (have H2_ := (Option.bind_some _ _).symm.trans H; with_reducible exact H2_) | with_reducible exact H | (rw [hy661]; exact H) | exact H
 have Ny661 := Aside0.mk hy661
 clear hy661
 obtain ⟨⟨t664, t665⟩, A30, H⟩ := Option.bind_eq_some_iff.mp H
 (try dsimp -simprocs only at H)
 have A3 := Aside0.mk A30
 clear A30
 by_cases c4 : t665 = true
 ·
  subst c4
  rw [if_pos rfl] at H
  simp only [Option.some.injEq, Prod.mk.injEq] at H
  obtain ⟨rfl, rfl⟩ := H
  go_enter Try.func60, Try.ntmps60
  go_wp2_with (first | ((with_reducible refine gate_dst (N := 16) rfl ?_); refine Kd.R_lit (Kd.int .u64) _ 22 ?hg (N := 16) ?hd (xs := ([a0, a1] : List Int)) (inner := [.int .u64 a0, .int .u64 a1]) (ok := fun _ => True) (okp := fun _ => True) ?hr ?hp (fun _ hk => hk) trivial (Below.refl _ _) (Nat.le_refl _) (by simp) ?_; (case hd => rfl); (case hg => rfl); (case hr => first | (go_simp; done) | (go_simp; rfl)); (case hp => exact (Reps.one (show Kd.M (Kd.int .u64) _ _ _ a0 [.int .u64 a0] from rfl) (Reps.one (show Kd.M (Kd.int .u64) _ _ _ a1 [.int .u64 a1] from rfl) (Reps.none _ _)))); intro v662 w5 ho6 hb hg_ hnew_; clear hg_ hnew_; (first | rw [← Ny661.out] at ho6 | (simp only [Int.reduceToNat] at ho6; rw [← Ny661.out] at ho6)); have n0_ := Aside0.mk (Kd.R_lower ho6 (below_size bel)); have n1_ := Aside0.mk (below_step bel hb); clear HB; have HO663 := n0_; have HB := n1_; clear n0_ n1_; clear hb ho6; obtain ⟨Ao7, co7, eo7⟩ := Kd.R_slice HO663.out; subst eo7) | (go_at_call 42; (with_reducible refine (gimbalref04_Nans.calls k _ _ y661 t664 true _ ?side1 ?side2 A3.out).mono ?_); (case side1 => exact ks HO663); (case side2 => exact (Kd.R_reads' HO663.out).2.1); rintro e w' ⟨rfl, ⟨nd, rfl⟩⟩; (try first | exact ⟨rfl, _, World.drewN_drewN _ _ _⟩ | exact ⟨rfl, _, Eq.trans (World.drewN_drewN _ _ _) (congrArg (World.drewN _) (Nat.add_assoc _ _ _))⟩)))
  repeat (go_quiet (first | ((with_reducible refine gate_dst (N := 16) rfl ?_); refine Kd.R_lit (Kd.int .u64) _ 22 ?hg (N := 16) ?hd (xs := ([a0, a1] : List Int)) (inner := [.int .u64 a0, .int .u64 a1]) (ok := fun _ => True) (okp := fun _ => True) ?hr ?hp (fun _ hk => hk) trivial (Below.refl _ _) (Nat.le_refl _) (by simp) ?_; (case hd => rfl); (case hg => rfl); (case hr => first | (go_simp; done) | (go_simp; rfl)); (case hp => exact (Reps.one (show Kd.M (Kd.int .u64) _ _ _ a0 [.int .u64 a0] from rfl) (Reps.one (show Kd.M (Kd.int .u64) _ _ _ a1 [.int .u64 a1] from rfl) (Reps.none _ _)))); intro v662 w5 ho6 hb hg_ hnew_; clear hg_ hnew_; (first | rw [← Ny661.out] at ho6 | (simp only [Int.reduceToNat] at ho6; rw [← Ny661.out] at ho6)); have n0_ := Aside0.mk (Kd.R_lower ho6 (below_size bel)); have n1_ := Aside0.mk (below_step bel hb); clear HB; have HO663 := n0_; have HB := n1_; clear n0_ n1_; clear hb ho6; obtain ⟨Ao7, co7, eo7⟩ := Kd.R_slice HO663.out; subst eo7) | (go_at_call 42; (with_reducible refine (gimbalref04_Nans.calls k _ _ y661 t664 true _ ?side1 ?side2 A3.out).mono ?_); (case side1 => exact ks HO663); (case side2 => exact (Kd.R_reads' HO663.out).2.1); rintro e w' ⟨rfl, ⟨nd, rfl⟩⟩; (try first | exact ⟨rfl, _, World.drewN_drewN _ _ _⟩ | exact ⟨rfl, _, Eq.trans (World.drewN_drewN _ _ _) (congrArg (World.drewN _) (Nat.add_assoc _ _ _))⟩))); try go_wp2_with (first | ((with_reducible refine gate_dst (N := 16) rfl ?_); refine Kd.R_lit (Kd.int .u64) _ 22 ?hg (N := 16) ?hd (xs := ([a0, a1] : List Int)) (inner := [.int .u64 a0, .int .u64 a1]) (ok := fun _ => True) (okp := fun _ => True) ?hr ?hp (fun _ hk => hk) trivial (Below.refl _ _) (Nat.le_refl _) (by simp) ?_; (case hd => rfl); (case hg => rfl); (case hr => first | (go_simp; done) | (go_simp; rfl)); (case hp => exact (Reps.one (show Kd.M (Kd.int .u64) _ _ _ a0 [.int .u64 a0] from rfl) (Reps.one (show Kd.M (Kd.int .u64) _ _ _ a1 [.int .u64 a1] from rfl) (Reps.none _ _)))); intro v662 w5 ho6 hb hg_ hnew_; clear hg_ hnew_; (first | rw [← Ny661.out] at ho6 | (simp only [Int.reduceToNat] at ho6; rw [← Ny661.out] at ho6)); have n0_ := Aside0.mk (Kd.R_lower ho6 (below_size bel)); have n1_ := Aside0.mk (below_step bel hb); clear HB; have HO663 := n0_; have HB := n1_; clear n0_ n1_; clear hb ho6; obtain ⟨Ao7, co7, eo7⟩ := Kd.R_slice HO663.out; subst eo7) | (go_at_call 42; (with_reducible refine (gimbalref04_Nans.calls k _ _ y661 t664 true _ ?side1 ?side2 A3.out).mono ?_); (case side1 => exact ks HO663); (case side2 => exact (Kd.R_reads' HO663.out).2.1); rintro e w' ⟨rfl, ⟨nd, rfl⟩⟩; (try first | exact ⟨rfl, _, World.drewN_drewN _ _ _⟩ | exact ⟨rfl, _, Eq.trans (World.drewN_drewN _ _ _) (congrArg (World.drewN _) (Nat.add_assoc _ _ _))⟩))))
  go_ret2
  exact ⟨er, bel⟩
 ·
  replace c4 := Bool.eq_false_iff.mpr c4
  subst c4
  rw [if_neg (show ¬ (false = true) by decide)] at H
  have HC8 := Aside0.mk H
  clear H
  go_enter Try.func60, Try.ntmps60
  go_upto_region 4 with (first | ((with_reducible refine gate_dst (N := 16) rfl ?_); refine Kd.R_lit (Kd.int .u64) _ 22 ?hg (N := 16) ?hd (xs := ([a0, a1] : List Int)) (inner := [.int .u64 a0, .int .u64 a1]) (ok := fun _ => True) (okp := fun _ => True) ?hr ?hp (fun _ hk => hk) trivial (Below.refl _ _) (Nat.le_refl _) (by simp) ?_; (case hd => rfl); (case hg => rfl); (case hr => first | (go_simp; done) | (go_simp; rfl)); (case hp => exact (Reps.one (show Kd.M (Kd.int .u64) _ _ _ a0 [.int .u64 a0] from rfl) (Reps.one (show Kd.M (Kd.int .u64) _ _ _ a1 [.int .u64 a1] from rfl) (Reps.none _ _)))); intro v662 w9 ho10 hb hg_ hnew_; clear hg_ hnew_; (first | rw [← Ny661.out] at ho10 | (simp only [Int.reduceToNat] at ho10; rw [← Ny661.out] at ho10)); have n0_ := Aside0.mk (Kd.R_lower ho10 (below_size bel)); have n1_ := Aside0.mk (below_step bel hb); clear HB; have HO663 := n0_; have HB := n1_; clear n0_ n1_; clear hb ho10; obtain ⟨Ao11, co11, eo11⟩ := Kd.R_slice HO663.out; subst eo11) | (go_at_call 42; (with_reducible refine (gimbalref04_Nans.calls k _ _ y661 t664 false _ ?side1 ?side2 A3.out).mono ?_); (case side1 => exact ks HO663); (case side2 => exact (Kd.R_reads' HO663.out).2.1); rintro e w' ⟨rfl, ⟨nd, rfl⟩⟩; (try first | exact ⟨rfl, _, World.drewN_drewN _ _ _⟩ | exact ⟨rfl, _, Eq.trans (World.drewN_drewN _ _ _) (congrArg (World.drewN _) (Nat.add_assoc _ _ _))⟩)))
  repeat (go_quiet (first | ((with_reducible refine gate_dst (N := 16) rfl ?_); refine Kd.R_lit (Kd.int .u64) _ 22 ?hg (N := 16) ?hd (xs := ([a0, a1] : List Int)) (inner := [.int .u64 a0, .int .u64 a1]) (ok := fun _ => True) (okp := fun _ => True) ?hr ?hp (fun _ hk => hk) trivial (Below.refl _ _) (Nat.le_refl _) (by simp) ?_; (case hd => rfl); (case hg => rfl); (case hr => first | (go_simp; done) | (go_simp; rfl)); (case hp => exact (Reps.one (show Kd.M (Kd.int .u64) _ _ _ a0 [.int .u64 a0] from rfl) (Reps.one (show Kd.M (Kd.int .u64) _ _ _ a1 [.int .u64 a1] from rfl) (Reps.none _ _)))); intro v662 w9 ho10 hb hg_ hnew_; clear hg_ hnew_; (first | rw [← Ny661.out] at ho10 | (simp only [Int.reduceToNat] at ho10; rw [← Ny661.out] at ho10)); have n0_ := Aside0.mk (Kd.R_lower ho10 (below_size bel)); have n1_ := Aside0.mk (below_step bel hb); clear HB; have HO663 := n0_; have HB := n1_; clear n0_ n1_; clear hb ho10; obtain ⟨Ao11, co11, eo11⟩ := Kd.R_slice HO663.out; subst eo11) | (go_at_call 42; (with_reducible refine (gimbalref04_Nans.calls k _ _ y661 t664 false _ ?side1 ?side2 A3.out).mono ?_); (case side1 => exact ks HO663); (case side2 => exact (Kd.R_reads' HO663.out).2.1); rintro e w' ⟨rfl, ⟨nd, rfl⟩⟩; (try first | exact ⟨rfl, _, World.drewN_drewN _ _ _⟩ | exact ⟨rfl, _, Eq.trans (World.drewN_drewN _ _ _) (congrArg (World.drewN _) (Nat.add_assoc _ _ _))⟩))); go_upto_region 4 with (first | ((with_reducible refine gate_dst (N := 16) rfl ?_); refine Kd.R_lit (Kd.int .u64) _ 22 ?hg (N := 16) ?hd (xs := ([a0, a1] : List Int)) (inner := [.int .u64 a0, .int .u64 a1]) (ok := fun _ => True) (okp := fun _ => True) ?hr ?hp (fun _ hk => hk) trivial (Below.refl _ _) (Nat.le_refl _) (by simp) ?_; (case hd => rfl); (case hg => rfl); (case hr => first | (go_simp; done) | (go_simp; rfl)); (case hp => exact (Reps.one (show Kd.M (Kd.int .u64) _ _ _ a0 [.int .u64 a0] from rfl) (Reps.one (show Kd.M (Kd.int .u64) _ _ _ a1 [.int .u64 a1] from rfl) (Reps.none _ _)))); intro v662 w9 ho10 hb hg_ hnew_; clear hg_ hnew_; (first | rw [← Ny661.out] at ho10 | (simp only [Int.reduceToNat] at ho10; rw [← Ny661.out] at ho10)); have n0_ := Aside0.mk (Kd.R_lower ho10 (below_size bel)); have n1_ := Aside0.mk (below_step bel hb); clear HB; have HO663 := n0_; have HB := n1_; clear n0_ n1_; clear hb ho10; obtain ⟨Ao11, co11, eo11⟩ := Kd.R_slice HO663.out; subst eo11) | (go_at_call 42; (with_reducible refine (gimbalref04_Nans.calls k _ _ y661 t664 false _ ?side1 ?side2 A3.out).mono ?_); (case side1 => exact ks HO663); (case side2 => exact (Kd.R_reads' HO663.out).2.1); rintro e w' ⟨rfl, ⟨nd, rfl⟩⟩; (try first | exact ⟨rfl, _, World.drewN_drewN _ _ _⟩ | exact ⟨rfl, _, Eq.trans (World.drewN_drewN _ _ _) (congrArg (World.drewN _) (Nat.add_assoc _ _ _))⟩))))
  (try simp only [Act.put, List.setIfInBounds_toArray, List.set_cons_zero, List.set_cons_succ])
  go_cut [27] (fun v27 wc => ∃ (kq : Nat) (x27_7 : Bool), v27 = .bool x27_7 ∧ Aside0 (gimbalref04_Add.j0 kq a0 a1 x27_7 = some (r1, r2)) ∧ Aside0 (kq ≤ k) ∧ Aside0 (Below w.heap.size w wc))
  case first =>
   have H := HC8.out
   clear HC8
   obtain ⟨t666, A120, H⟩ := Option.bind_eq_some_iff.mp H
   (try dsimp -simprocs only at H)
   have A12 := Aside0.mk A120
   clear A120
   by_cases c13 : t666 = true
   ·
    subst c13
    rw [if_pos rfl] at H
    obtain ⟨t667, A140, H⟩ := Option.bind_eq_some_iff.mp H
    (try dsimp -simprocs only at H)
    have A14 := Aside0.mk A140
    clear A140
    have H' := Aside0.mk H
    clear H
    go_wp2_with (first | (go_at_call 49; (with_reducible refine (gimbalref04_IsInf.calls a0 true _ A12.out).mono ?_); rintro e w' ⟨rfl, ⟨nd, rfl⟩⟩; (try first | exact ⟨rfl, _, World.drewN_drewN _ _ _⟩ | exact ⟨rfl, _, Eq.trans (World.drewN_drewN _ _ _) (congrArg (World.drewN _) (Nat.add_assoc _ _ _))⟩)) | (go_at_call 49; (with_reducible refine (gimbalref04_IsInf.calls a1 t667 _ A14.out).mono ?_); rintro e w' ⟨rfl, ⟨nd, rfl⟩⟩; (try first | exact ⟨rfl, _, World.drewN_drewN _ _ _⟩ | exact ⟨rfl, _, Eq.trans (World.drewN_drewN _ _ _) (congrArg (World.drewN _) (Nat.add_assoc _ _ _))⟩)))
    repeat (go_quiet (first | (go_at_call 49; (with_reducible refine (gimbalref04_IsInf.calls a0 true _ A12.out).mono ?_); rintro e w' ⟨rfl, ⟨nd, rfl⟩⟩; (try first | exact ⟨rfl, _, World.drewN_drewN _ _ _⟩ | exact ⟨rfl, _, Eq.trans (World.drewN_drewN _ _ _) (congrArg (World.drewN _) (Nat.add_assoc _ _ _))⟩)) | (go_at_call 49; (with_reducible refine (gimbalref04_IsInf.calls a1 t667 _ A14.out).mono ?_); rintro e w' ⟨rfl, ⟨nd, rfl⟩⟩; (try first | exact ⟨rfl, _, World.drewN_drewN _ _ _⟩ | exact ⟨rfl, _, Eq.trans (World.drewN_drewN _ _ _) (congrArg (World.drewN _) (Nat.add_assoc _ _ _))⟩))); try go_wp2_with (first | (go_at_call 49; (with_reducible refine (gimbalref04_IsInf.calls a0 true _ A12.out).mono ?_); rintro e w' ⟨rfl, ⟨nd, rfl⟩⟩; (try first | exact ⟨rfl, _, World.drewN_drewN _ _ _⟩ | exact ⟨rfl, _, Eq.trans (World.drewN_drewN _ _ _) (congrArg (World.drewN _) (Nat.add_assoc _ _ _))⟩)) | (go_at_call 49; (with_reducible refine (gimbalref04_IsInf.calls a1 t667 _ A14.out).mono ?_); rintro e w' ⟨rfl, ⟨nd, rfl⟩⟩; (try first | exact ⟨rfl, _, World.drewN_drewN _ _ _⟩ | exact ⟨rfl, _, Eq.trans (World.drewN_drewN _ _ _) (congrArg (World.drewN _) (Nat.add_assoc _ _ _))⟩))))
    go_meet
    case rel => exact ⟨_, (t667), (by first | rfl | (simp; done) | (simp [*]; done)), H', ⟨by first | omega | exact Nat.le_refl _⟩, ⟨bel⟩⟩
   ·
    replace c13 := Bool.eq_false_iff.mpr c13
    subst c13
    rw [if_neg (show ¬ (false = true) by decide)] at H
    have H' := Aside0.mk H
    clear H
    go_wp2_with (first | (go_at_call 49; (with_reducible refine (gimbalref04_IsInf.calls a0 false _ A12.out).mono ?_); rintro e w' ⟨rfl, ⟨nd, rfl⟩⟩; (try first | exact ⟨rfl, _, World.drewN_drewN _ _ _⟩ | exact ⟨rfl, _, Eq.trans (World.drewN_drewN _ _ _) (congrArg (World.drewN _) (Nat.add_assoc _ _ _))⟩)))
    repeat (go_quiet (first | (go_at_call 49; (with_reducible refine (gimbalref04_IsInf.calls a0 false _ A12.out).mono ?_); rintro e w' ⟨rfl, ⟨nd, rfl⟩⟩; (try first | exact ⟨rfl, _, World.drewN_drewN _ _ _⟩ | exact ⟨rfl, _, Eq.trans (World.drewN_drewN _ _ _) (congrArg (World.drewN _) (Nat.add_assoc _ _ _))⟩))); try go_wp2_with (first | (go_at_call 49; (with_reducible refine (gimbalref04_IsInf.calls a0 false _ A12.out).mono ?_); rintro e w' ⟨rfl, ⟨nd, rfl⟩⟩; (try first | exact ⟨rfl, _, World.drewN_drewN _ _ _⟩ | exact ⟨rfl, _, Eq.trans (World.drewN_drewN _ _ _) (congrArg (World.drewN _) (Nat.add_assoc _ _ _))⟩))))
    go_meet
    case rel => exact ⟨_, (false), (by first | rfl | (simp; done) | (simp [*]; done)), H', ⟨by first | omega | exact Nat.le_refl _⟩, ⟨bel⟩⟩
  case rest =>
   clear HC8
   try clear c1
   try clear p2
   try clear c4
   try clear c6
   try clear c13
   obtain ⟨kq, x27_7, rfl, HA, HJ7, HB⟩ := hcut
   cases kq with
   | zero => exact absurd HA.out (by simp [gimbalref04_Add.j0])
   | succ kj7 =>
    have H := HA.out
    clear HA
    simp only [gimbalref04_Add.j0] at H
    by_cases c15 : x27_7 = true
    ·
     subst c15
     rw [if_pos rfl] at H
     by_cases c16 : a0 = a1
     ·
      rw [if_pos c16] at H
      have c16b0 : (a0 == a1) = true := beq_iff_eq.mpr c16
      have c16b1 : (a0 != a1) = false := bne_eq_false_iff_eq.mpr c16
      clear c16
      simp only [Option.some.injEq, Prod.mk.injEq] at H
      obtain ⟨rfl, rfl⟩ := H
      go_wp2
      repeat (go_quiet (fail); try go_wp2)
      go_ret2
      exact ⟨er, bel⟩
     ·
      rw [if_neg c16] at H
      have c16b0 : (a0 == a1) = false := beq_eq_false_iff_ne.mpr c16
      have c16b1 : (a0 != a1) = true := bne_iff_ne.mpr c16
      simp only [Option.some.injEq, Prod.mk.injEq] at H
      obtain ⟨rfl, rfl⟩ := H
      go_wp2
      repeat (go_quiet (fail); try go_wp2)
      go_ret2
      exact ⟨er, bel⟩
    ·
     replace c15 := Bool.eq_false_iff.mpr c15
     subst c15
     rw [if_neg (show ¬ (false = true) by decide)] at H
     obtain ⟨t668, A170, H⟩ := Option.bind_eq_some_iff.mp H
     (try dsimp -simprocs only at H)
     have A17 := Aside0.mk A170
     clear A170
     by_cases c18 : t668 = true
     ·
      subst c18
      rw [if_pos rfl] at H
      simp only [Option.some.injEq, Prod.mk.injEq] at H
      obtain ⟨rfl, rfl⟩ := H
      go_wp2_with (first | (go_at_call 49; (with_reducible refine (gimbalref04_IsInf.calls a0 true _ A17.out).mono ?_); rintro e w' ⟨rfl, ⟨nd, rfl⟩⟩; (try first | exact ⟨rfl, _, World.drewN_drewN _ _ _⟩ | exact ⟨rfl, _, Eq.trans (World.drewN_drewN _ _ _) (congrArg (World.drewN _) (Nat.add_assoc _ _ _))⟩)))
      repeat (go_quiet (first | (go_at_call 49; (with_reducible refine (gimbalref04_IsInf.calls a0 true _ A17.out).mono ?_); rintro e w' ⟨rfl, ⟨nd, rfl⟩⟩; (try first | exact ⟨rfl, _, World.drewN_drewN _ _ _⟩ | exact ⟨rfl, _, Eq.trans (World.drewN_drewN _ _ _) (congrArg (World.drewN _) (Nat.add_assoc _ _ _))⟩))); try go_wp2_with (first | (go_at_call 49; (with_reducible refine (gimbalref04_IsInf.calls a0 true _ A17.out).mono ?_); rintro e w' ⟨rfl, ⟨nd, rfl⟩⟩; (try first | exact ⟨rfl, _, World.drewN_drewN _ _ _⟩ | exact ⟨rfl, _, Eq.trans (World.drewN_drewN _ _ _) (congrArg (World.drewN _) (Nat.add_assoc _ _ _))⟩))))
      go_ret2
      exact ⟨er, bel⟩
     ·
      replace c18 := Bool.eq_false_iff.mpr c18
      subst c18
      rw [if_neg (show ¬ (false = true) by decide)] at H
      obtain ⟨t669, A190, H⟩ := Option.bind_eq_some_iff.mp H
      (try dsimp -simprocs only at H)
      have A19 := Aside0.mk A190
      clear A190
      by_cases c20 : t669 = true
      ·
       subst c20
       rw [if_pos rfl] at H
       simp only [Option.some.injEq, Prod.mk.injEq] at H
       obtain ⟨rfl, rfl⟩ := H
       go_wp2_with (first | (go_at_call 49; (with_reducible refine (gimbalref04_IsInf.calls a0 false _ A17.out).mono ?_); rintro e w' ⟨rfl, ⟨nd, rfl⟩⟩; (try first | exact ⟨rfl, _, World.drewN_drewN _ _ _⟩ | exact ⟨rfl, _, Eq.trans (World.drewN_drewN _ _ _) (congrArg (World.drewN _) (Nat.add_assoc _ _ _))⟩)) | (go_at_call 49; (with_reducible refine (gimbalref04_IsInf.calls a1 true _ A19.out).mono ?_); rintro e w' ⟨rfl, ⟨nd, rfl⟩⟩; (try first | exact ⟨rfl, _, World.drewN_drewN _ _ _⟩ | exact ⟨rfl, _, Eq.trans (World.drewN_drewN _ _ _) (congrArg (World.drewN _) (Nat.add_assoc _ _ _))⟩)))
       repeat (go_quiet (first | (go_at_call 49; (with_reducible refine (gimbalref04_IsInf.calls a0 false _ A17.out).mono ?_); rintro e w' ⟨rfl, ⟨nd, rfl⟩⟩; (try first | exact ⟨rfl, _, World.drewN_drewN _ _ _⟩ | exact ⟨rfl, _, Eq.trans (World.drewN_drewN _ _ _) (congrArg (World.drewN _) (Nat.add_assoc _ _ _))⟩)) | (go_at_call 49; (with_reducible refine (gimbalref04_IsInf.calls a1 true _ A19.out).mono ?_); rintro e w' ⟨rfl, ⟨nd, rfl⟩⟩; (try first | exact ⟨rfl, _, World.drewN_drewN _ _ _⟩ | exact ⟨rfl, _, Eq.trans (World.drewN_drewN _ _ _) (congrArg (World.drewN _) (Nat.add_assoc _ _ _))⟩))); try go_wp2_with (first | (go_at_call 49; (with_reducible refine (gimbalref04_IsInf.calls a0 false _ A17.out).mono ?_); rintro e w' ⟨rfl, ⟨nd, rfl⟩⟩; (try first | exact ⟨rfl, _, World.drewN_drewN _ _ _⟩ | exact ⟨rfl, _, Eq.trans (World.drewN_drewN _ _ _) (congrArg (World.drewN _) (Nat.add_assoc _ _ _))⟩)) | (go_at_call 49; (with_reducible refine (gimbalref04_IsInf.calls a1 true _ A19.out).mono ?_); rintro e w' ⟨rfl, ⟨nd, rfl⟩⟩; (try first | exact ⟨rfl, _, World.drewN_drewN _ _ _⟩ | exact ⟨rfl, _, Eq.trans (World.drewN_drewN _ _ _) (congrArg (World.drewN _) (Nat.add_assoc _ _ _))⟩))))
       go_ret2
       exact ⟨er, bel⟩
      ·
       replace c20 := Bool.eq_false_iff.mpr c20
       subst c20
       rw [if_neg (show ¬ (false = true) by decide)] at H
       have HC21 := Aside0.mk H
       clear H
       go_upto_region 12 with (first | (go_at_call 49; (with_reducible refine (gimbalref04_IsInf.calls a0 false _ A17.out).mono ?_); rintro e w' ⟨rfl, ⟨nd, rfl⟩⟩; (try first | exact ⟨rfl, _, World.drewN_drewN _ _ _⟩ | exact ⟨rfl, _, Eq.trans (World.drewN_drewN _ _ _) (congrArg (World.drewN _) (Nat.add_assoc _ _ _))⟩)) | (go_at_call 49; (with_reducible refine (gimbalref04_IsInf.calls a1 false _ A19.out).mono ?_); rintro e w' ⟨rfl, ⟨nd, rfl⟩⟩; (try first | exact ⟨rfl, _, World.drewN_drewN _ _ _⟩ | exact ⟨rfl, _, Eq.trans (World.drewN_drewN _ _ _) (congrArg (World.drewN _) (Nat.add_assoc _ _ _))⟩)))
       repeat (go_quiet (first | (go_at_call 49; (with_reducible refine (gimbalref04_IsInf.calls a0 false _ A17.out).mono ?_); rintro e w' ⟨rfl, ⟨nd, rfl⟩⟩; (try first | exact ⟨rfl, _, World.drewN_drewN _ _ _⟩ | exact ⟨rfl, _, Eq.trans (World.drewN_drewN _ _ _) (congrArg (World.drewN _) (Nat.add_assoc _ _ _))⟩)) | (go_at_call 49; (with_reducible refine (gimbalref04_IsInf.calls a1 false _ A19.out).mono ?_); rintro e w' ⟨rfl, ⟨nd, rfl⟩⟩; (try first | exact ⟨rfl, _, World.drewN_drewN _ _ _⟩ | exact ⟨rfl, _, Eq.trans (World.drewN_drewN _ _ _) (congrArg (World.drewN _) (Nat.add_assoc _ _ _))⟩))); go_upto_region 12 with (first | (go_at_call 49; (with_reducible refine (gimbalref04_IsInf.calls a0 false _ A17.out).mono ?_); rintro e w' ⟨rfl, ⟨nd, rfl⟩⟩; (try first | exact ⟨rfl, _, World.drewN_drewN _ _ _⟩ | exact ⟨rfl, _, Eq.trans (World.drewN_drewN _ _ _) (congrArg (World.drewN _) (Nat.add_assoc _ _ _))⟩)) | (go_at_call 49; (with_reducible refine (gimbalref04_IsInf.calls a1 false _ A19.out).mono ?_); rintro e w' ⟨rfl, ⟨nd, rfl⟩⟩; (try first | exact ⟨rfl, _, World.drewN_drewN _ _ _⟩ | exact ⟨rfl, _, Eq.trans (World.drewN_drewN _ _ _) (congrArg (World.drewN _) (Nat.add_assoc _ _ _))⟩))))
       (try simp only [Act.put, List.setIfInBounds_toArray, List.set_cons_zero, List.set_cons_succ])
       go_cut [43] (fun v43 wc => ∃ (kq : Nat) (x43_20 : Bool), v43 = .bool x43_20 ∧ Aside0 (gimbalref04_Add.j1 kq a0 a1 x43_20 = some (r1, r2)) ∧ Aside0 (kq ≤ kj7) ∧ Aside0 (Below w.heap.size w wc))
       case first =>
        have H := HC21.out
        clear HC21
        obtain ⟨t670, A220, H⟩ := Option.bind_eq_some_iff.mp H
        (try dsimp -simprocs only at H)
        have A22 := Aside0.mk A220
        clear A220
        by_cases c23 : t670 = true
        ·
         subst c23
         rw [if_pos rfl] at H
         obtain ⟨t671, A240, H⟩ := Option.bind_eq_some_iff.mp H
         (try dsimp -simprocs only at H)
         have A24 := Aside0.mk A240
         clear A240
         have H' := Aside0.mk H
         clear H
         go_wp2_with (first | (go_at_call 43; (with_reducible refine (gimbalref04_IsZero.calls a0 true _ A22.out).mono ?_); rintro e w' ⟨rfl, ⟨nd, rfl⟩⟩; (try first | exact ⟨rfl, _, World.drewN_drewN _ _ _⟩ | exact ⟨rfl, _, Eq.trans (World.drewN_drewN _ _ _) (congrArg (World.drewN _) (Nat.add_assoc _ _ _))⟩)) | (go_at_call 43; (with_reducible refine (gimbalref04_IsZero.calls a1 t671 _ A24.out).mono ?_); rintro e w' ⟨rfl, ⟨nd, rfl⟩⟩; (try first | exact ⟨rfl, _, World.drewN_drewN _ _ _⟩ | exact ⟨rfl, _, Eq.trans (World.drewN_drewN _ _ _) (congrArg (World.drewN _) (Nat.add_assoc _ _ _))⟩)))
         repeat (go_quiet (first | (go_at_call 43; (with_reducible refine (gimbalref04_IsZero.calls a0 true _ A22.out).mono ?_); rintro e w' ⟨rfl, ⟨nd, rfl⟩⟩; (try first | exact ⟨rfl, _, World.drewN_drewN _ _ _⟩ | exact ⟨rfl, _, Eq.trans (World.drewN_drewN _ _ _) (congrArg (World.drewN _) (Nat.add_assoc _ _ _))⟩)) | (go_at_call 43; (with_reducible refine (gimbalref04_IsZero.calls a1 t671 _ A24.out).mono ?_); rintro e w' ⟨rfl, ⟨nd, rfl⟩⟩; (try first | exact ⟨rfl, _, World.drewN_drewN _ _ _⟩ | exact ⟨rfl, _, Eq.trans (World.drewN_drewN _ _ _) (congrArg (World.drewN _) (Nat.add_assoc _ _ _))⟩))); try go_wp2_with (first | (go_at_call 43; (with_reducible refine (gimbalref04_IsZero.calls a0 true _ A22.out).mono ?_); rintro e w' ⟨rfl, ⟨nd, rfl⟩⟩; (try first | exact ⟨rfl, _, World.drewN_drewN _ _ _⟩ | exact ⟨rfl, _, Eq.trans (World.drewN_drewN _ _ _) (congrArg (World.drewN _) (Nat.add_assoc _ _ _))⟩)) | (go_at_call 43; (with_reducible refine (gimbalref04_IsZero.calls a1 t671 _ A24.out).mono ?_); rintro e w' ⟨rfl, ⟨nd, rfl⟩⟩; (try first | exact ⟨rfl, _, World.drewN_drewN _ _ _⟩ | exact ⟨rfl, _, Eq.trans (World.drewN_drewN _ _ _) (congrArg (World.drewN _) (Nat.add_assoc _ _ _))⟩))))
         go_meet
         case rel => exact ⟨_, (t671), (by first | rfl | (simp; done) | (simp [*]; done)), H', ⟨by have := HJ7.out; first | omega | exact Nat.le_refl _⟩, ⟨bel⟩⟩
        ·
         replace c23 := Bool.eq_false_iff.mpr c23
         subst c23
         rw [if_neg (show ¬ (false = true) by decide)] at H
         have H' := Aside0.mk H
         clear H
         go_wp2_with (first | (go_at_call 43; (with_reducible refine (gimbalref04_IsZero.calls a0 false _ A22.out).mono ?_); rintro e w' ⟨rfl, ⟨nd, rfl⟩⟩; (try first | exact ⟨rfl, _, World.drewN_drewN _ _ _⟩ | exact ⟨rfl, _, Eq.trans (World.drewN_drewN _ _ _) (congrArg (World.drewN _) (Nat.add_assoc _ _ _))⟩)))
         repeat (go_quiet (first | (go_at_call 43; (with_reducible refine (gimbalref04_IsZero.calls a0 false _ A22.out).mono ?_); rintro e w' ⟨rfl, ⟨nd, rfl⟩⟩; (try first | exact ⟨rfl, _, World.drewN_drewN _ _ _⟩ | exact ⟨rfl, _, Eq.trans (World.drewN_drewN _ _ _) (congrArg (World.drewN _) (Nat.add_assoc _ _ _))⟩))); try go_wp2_with (first | (go_at_call 43; (with_reducible refine (gimbalref04_IsZero.calls a0 false _ A22.out).mono ?_); rintro e w' ⟨rfl, ⟨nd, rfl⟩⟩; (try first | exact ⟨rfl, _, World.drewN_drewN _ _ _⟩ | exact ⟨rfl, _, Eq.trans (World.drewN_drewN _ _ _) (congrArg (World.drewN _) (Nat.add_assoc _ _ _))⟩))))
         go_meet
         case rel => exact ⟨_, (false), (by first | rfl | (simp; done) | (simp [*]; done)), H', ⟨by have := HJ7.out; first | omega | exact Nat.le_refl _⟩, ⟨bel⟩⟩
       case rest =>
        clear HC21
        try clear c1
        try clear c2
        try clear p2
        try clear c4
        try clear c6
        try clear c13
        try clear c15
        try clear c16
        try clear c16b0
        try clear c16b1
        try clear c18
        try clear c20
        try clear c23
        try clear p2
        obtain ⟨kq, x43_20, rfl, HA, HJ20, HB⟩ := hcut
        cases kq with
        | zero => exact absurd HA.out (by simp [gimbalref04_Add.j1])
        | succ kj20 =>
         have H := HA.out
         clear HA
         simp only [gimbalref04_Add.j1] at H
         by_cases c25 : x43_20 = true
         ·
          subst c25
          rw [if_pos rfl] at H
          obtain ⟨t672, A260, H⟩ := Option.bind_eq_some_iff.mp H
          (try dsimp -simprocs only at H)
          have A26 := Aside0.mk A260
          clear A260
          by_cases c27 : t672 = true
          ·
           subst c27
           rw [if_pos rfl] at H
           obtain ⟨t673, A280, H⟩ := Option.bind_eq_some_iff.mp H
           (try dsimp -simprocs only at H)
           have A28 := Aside0.mk A280
           clear A280
           obtain ⟨t674, A290, H⟩ := Option.bind_eq_some_iff.mp H
           (try dsimp -simprocs only at H)
           have A29 := Aside0.mk A290
           clear A290
           simp only [Option.some.injEq, Prod.mk.injEq] at H
           obtain ⟨rfl, rfl⟩ := H
           go_wp2_with (first | (go_at_call 44; (with_reducible refine (gimbalref04_Neg.calls a0 true _ A26.out).mono ?_); rintro e w' ⟨rfl, ⟨nd, rfl⟩⟩; (try first | exact ⟨rfl, _, World.drewN_drewN _ _ _⟩ | exact ⟨rfl, _, Eq.trans (World.drewN_drewN _ _ _) (congrArg (World.drewN _) (Nat.add_assoc _ _ _))⟩)) | (go_at_call 44; (with_reducible refine (gimbalref04_Neg.calls a1 t673 _ A28.out).mono ?_); rintro e w' ⟨rfl, ⟨nd, rfl⟩⟩; (try first | exact ⟨rfl, _, World.drewN_drewN _ _ _⟩ | exact ⟨rfl, _, Eq.trans (World.drewN_drewN _ _ _) (congrArg (World.drewN _) (Nat.add_assoc _ _ _))⟩)) | (go_at_call 61; (with_reducible refine (gimbalref04_Signed.calls t673 0 t674 _ A29.out).mono ?_); rintro e w' ⟨rfl, ⟨nd, rfl⟩⟩; (try first | exact ⟨rfl, _, World.drewN_drewN _ _ _⟩ | exact ⟨rfl, _, Eq.trans (World.drewN_drewN _ _ _) (congrArg (World.drewN _) (Nat.add_assoc _ _ _))⟩)))
           repeat (go_quiet (first | (go_at_call 44; (with_reducible refine (gimbalref04_Neg.calls a0 true _ A26.out).mono ?_); rintro e w' ⟨rfl, ⟨nd, rfl⟩⟩; (try first | exact ⟨rfl, _, World.drewN_drewN _ _ _⟩ | exact ⟨rfl, _, Eq.trans (World.drewN_drewN _ _ _) (congrArg (World.drewN _) (Nat.add_assoc _ _ _))⟩)) | (go_at_call 44; (with_reducible refine (gimbalref04_Neg.calls a1 t673 _ A28.out).mono ?_); rintro e w' ⟨rfl, ⟨nd, rfl⟩⟩; (try first | exact ⟨rfl, _, World.drewN_drewN _ _ _⟩ | exact ⟨rfl, _, Eq.trans (World.drewN_drewN _ _ _) (congrArg (World.drewN _) (Nat.add_assoc _ _ _))⟩)) | (go_at_call 61; (with_reducible refine (gimbalref04_Signed.calls t673 0 t674 _ A29.out).mono ?_); rintro e w' ⟨rfl, ⟨nd, rfl⟩⟩; (try first | exact ⟨rfl, _, World.drewN_drewN _ _ _⟩ | exact ⟨rfl, _, Eq.trans (World.drewN_drewN _ _ _) (congrArg (World.drewN _) (Nat.add_assoc _ _ _))⟩))); try go_wp2_with (first | (go_at_call 44; (with_reducible refine (gimbalref04_Neg.calls a0 true _ A26.out).mono ?_); rintro e w' ⟨rfl, ⟨nd, rfl⟩⟩; (try first | exact ⟨rfl, _, World.drewN_drewN _ _ _⟩ | exact ⟨rfl, _, Eq.trans (World.drewN_drewN _ _ _) (congrArg (World.drewN _) (Nat.add_assoc _ _ _))⟩)) | (go_at_call 44; (with_reducible refine (gimbalref04_Neg.calls a1 t673 _ A28.out).mono ?_); rintro e w' ⟨rfl, ⟨nd, rfl⟩⟩; (try first | exact ⟨rfl, _, World.drewN_drewN _ _ _⟩ | exact ⟨rfl, _, Eq.trans (World.drewN_drewN _ _ _) (congrArg (World.drewN _) (Nat.add_assoc _ _ _))⟩)) | (go_at_call 61; (with_reducible refine (gimbalref04_Signed.calls t673 0 t674 _ A29.out).mono ?_); rintro e w' ⟨rfl, ⟨nd, rfl⟩⟩; (try first | exact ⟨rfl, _, World.drewN_drewN _ _ _⟩ | exact ⟨rfl, _, Eq.trans (World.drewN_drewN _ _ _) (congrArg (World.drewN _) (Nat.add_assoc _ _ _))⟩))))
           go_ret2
           exact ⟨er, bel⟩
          ·
           replace c27 := Bool.eq_false_iff.mpr c27
           subst c27
           rw [if_neg (show ¬ (false = true) by decide)] at H
           obtain ⟨t675, A300, H⟩ := Option.bind_eq_some_iff.mp H
           (try dsimp -simprocs only at H)
           have A30 := Aside0.mk A300
           clear A300
           simp only [Option.some.injEq, Prod.mk.injEq] at H
           obtain ⟨rfl, rfl⟩ := H
           go_wp2_with (first | (go_at_call 44; (with_reducible refine (gimbalref04_Neg.calls a0 false _ A26.out).mono ?_); rintro e w' ⟨rfl, ⟨nd, rfl⟩⟩; (try first | exact ⟨rfl, _, World.drewN_drewN _ _ _⟩ | exact ⟨rfl, _, Eq.trans (World.drewN_drewN _ _ _) (congrArg (World.drewN _) (Nat.add_assoc _ _ _))⟩)) | (go_at_call 61; (with_reducible refine (gimbalref04_Signed.calls false 0 t675 _ A30.out).mono ?_); rintro e w' ⟨rfl, ⟨nd, rfl⟩⟩; (try first | exact ⟨rfl, _, World.drewN_drewN _ _ _⟩ | exact ⟨rfl, _, Eq.trans (World.drewN_drewN _ _ _) (congrArg (World.drewN _) (Nat.add_assoc _ _ _))⟩)))
           repeat (go_quiet (first | (go_at_call 44; (with_reducible refine (gimbalref04_Neg.calls a0 false _ A26.out).mono ?_); rintro e w' ⟨rfl, ⟨nd, rfl⟩⟩; (try first | exact ⟨rfl, _, World.drewN_drewN _ _ _⟩ | exact ⟨rfl, _, Eq.trans (World.drewN_drewN _ _ _) (congrArg (World.drewN _) (Nat.add_assoc _ _ _))⟩)) | (go_at_call 61; (with_reducible refine (gimbalref04_Signed.calls false 0 t675 _ A30.out).mono ?_); rintro e w' ⟨rfl, ⟨nd, rfl⟩⟩; (try first | exact ⟨rfl, _, World.drewN_drewN _ _ _⟩ | exact ⟨rfl, _, Eq.trans (World.drewN_drewN _ _ _) (congrArg (World.drewN _) (Nat.add_assoc _ _ _))⟩))); try go_wp2_with (first | (go_at_call 44; (with_reducible refine (gimbalref04_Neg.calls a0 false _ A26.out).mono ?_); rintro e w' ⟨rfl, ⟨nd, rfl⟩⟩; (try first | exact ⟨rfl, _, World.drewN_drewN _ _ _⟩ | exact ⟨rfl, _, Eq.trans (World.drewN_drewN _ _ _) (congrArg (World.drewN _) (Nat.add_assoc _ _ _))⟩)) | (go_at_call 61; (with_reducible refine (gimbalref04_Signed.calls false 0 t675 _ A30.out).mono ?_); rintro e w' ⟨rfl, ⟨nd, rfl⟩⟩; (try first | exact ⟨rfl, _, World.drewN_drewN _ _ _⟩ | exact ⟨rfl, _, Eq.trans (World.drewN_drewN _ _ _) (congrArg (World.drewN _) (Nat.add_assoc _ _ _))⟩))))
           go_ret2
           exact ⟨er, bel⟩
         ·
          replace c25 := Bool.eq_false_iff.mpr c25
          subst c25
          rw [if_neg (show ¬ (false = true) by decide)] at H
          obtain ⟨t676, A310, H⟩ := Option.bind_eq_some_iff.mp H
          (try dsimp -simprocs only at H)
          have A31 := Aside0.mk A310
          clear A310
          obtain ⟨t679, A320, H⟩ := Option.bind_eq_some_iff.mp H
          (try dsimp -simprocs only at H)
          have A32 := Aside0.mk A320
          clear A320
          obtain ⟨t682, A330, H⟩ := Option.bind_eq_some_iff.mp H
          (try dsimp -simprocs only at H)
          have A33 := Aside0.mk A330
          clear A330
          obtain ⟨t683, A340, H⟩ := Option.bind_eq_some_iff.mp H
          (try dsimp -simprocs only at H)
          have A34 := Aside0.mk A340
          clear A340
          obtain ⟨t686, A350, H⟩ := Option.bind_eq_some_iff.mp H
          (try dsimp -simprocs only at H)
          have A35 := Aside0.mk A350
          clear A350
          obtain ⟨t687, A360, H⟩ := Option.bind_eq_some_iff.mp H
          (try dsimp -simprocs only at H)
          have A36 := Aside0.mk A360
          clear A360
          by_cases c37 : (t686 != t687) = true
          ·
           rw [if_pos c37] at H
           have c37b0 : (t686 != t687) = true := c37
           (try (have c37b1 : decide (t686 = t687) = false := by simpa using c37))
           (try (have c37b2 : (t686 == t687) = false := by simpa using c37))
           (try (have c37b3 : ¬ (t686 = t687) := by simpa using c37))
           clear c37
           obtain ⟨t688, A380, H⟩ := Option.bind_eq_some_iff.mp H
           (try dsimp -simprocs only at H)
           have A38 := Aside0.mk A380
           clear A380
           have HC39 := Aside0.mk H
           clear H
           go_upto_if 68 with (first | (go_at_call 18; (with_reducible refine (gimbalref04_Whole.calls kj20 a0 t676 _ A31.out).mono ?_); rintro e w40 ⟨v677, rfl, ho0, hb⟩; have n0_ := Aside0.mk (Kd.R_lower ho0 (below_size bel)); have n1_ := Aside0.mk (below_step bel hb); clear HB; have HO678 := n0_; have HB := n1_; clear n0_ n1_; (try clear hb); (try clear ho0)) | (go_at_call 18; (with_reducible refine (gimbalref04_Whole.calls kj20 a1 t679 _ A32.out).mono ?_); rintro e w41 ⟨v680, rfl, ho0, hb⟩; have n0_ := Aside0.mk (Kd.R_elder' (kr HO678) (Kd.R_base ho0) hb); have n1_ := Aside0.mk (Kd.R_lower (Kd.R_new' ho0 (Kd.R_lt (kr HO678))) (below_size bel)); have n2_ := Aside0.mk (below_step bel hb); clear HO678; clear HB; have HO678 := n0_; have HO681 := n1_; have HB := n2_; clear n0_ n1_ n2_; (try clear hb); (try clear ho0)) | (go_at_call 44; (with_reducible refine (gimbalref04_Neg.calls a0 t682 _ A33.out).mono ?_); rintro e w' ⟨rfl, ⟨nd, rfl⟩⟩; (try first | exact ⟨rfl, _, World.drewN_drewN _ _ _⟩ | exact ⟨rfl, _, Eq.trans (World.drewN_drewN _ _ _) (congrArg (World.drewN _) (Nat.add_assoc _ _ _))⟩); obtain ⟨Ao42, co42, eo42⟩ := Kd.R_slice HO678.out; subst eo42; obtain ⟨Ao43, co43, eo43⟩ := Kd.R_slice HO681.out; subst eo43) | (go_at_call 62; (with_reducible refine (gimbalref02_Add.calls kj20 _ _ t676 _ _ t679 t683 _ ?side1 ?side2 ?side3 ?side4 A34.out).mono ?_); (case side1 => exact ks HO678); (case side2 => exact (Kd.R_reads' HO678.out).2.1); (case side3 => exact ks HO681); (case side4 => exact (Kd.R_reads' HO681.out).2.1); rintro e w44 ⟨v684, rfl, ho0, hb⟩; have n0_ := Aside0.mk (Kd.R_elder' (kr HO678) (Kd.R_base ho0) hb); have n1_ := Aside0.mk (Kd.R_elder' (kr HO681) (Kd.R_base ho0) hb); have n2_ := Aside0.mk (Kd.R_lower (Kd.R_new' (Kd.R_new' ho0 (Kd.R_lt (kr HO678))) (Kd.R_lt (kr HO681))) (below_size bel)); have n3_ := Aside0.mk (below_step bel hb); clear HO678; clear HO681; clear HB; have HO678 := n0_; have HO681 := n1_; have HO685 := n2_; have HB := n3_; clear n0_ n1_ n2_ n3_; (try clear hb); (try clear ho0)) | (go_at_call 44; (with_reducible refine (gimbalref04_Neg.calls a0 t686 _ A35.out).mono ?_); rintro e w' ⟨rfl, ⟨nd, rfl⟩⟩; (try first | exact ⟨rfl, _, World.drewN_drewN _ _ _⟩ | exact ⟨rfl, _, Eq.trans (World.drewN_drewN _ _ _) (congrArg (World.drewN _) (Nat.add_assoc _ _ _))⟩)) | (go_at_call 44; (with_reducible refine (gimbalref04_Neg.calls a1 t687 _ A36.out).mono ?_); rintro e w' ⟨rfl, ⟨nd, rfl⟩⟩; (try first | exact ⟨rfl, _, World.drewN_drewN _ _ _⟩ | exact ⟨rfl, _, Eq.trans (World.drewN_drewN _ _ _) (congrArg (World.drewN _) (Nat.add_assoc _ _ _))⟩)) | (go_at_call 20; (with_reducible refine (gimbalref02_Cmp.calls kj20 _ _ t676 _ _ t679 t688 _ ?side1 ?side2 ?side3 ?side4 A38.out).mono ?_); (case side1 => exact ks HO678); (case side2 => exact (Kd.R_reads' HO678.out).2.1); (case side3 => exact ks HO681); (case side4 => exact (Kd.R_reads' HO681.out).2.1); rintro e w45 ⟨rfl, hb⟩; have n0_ := Aside0.mk (Kd.R_below (kr HO678) hb); have n1_ := Aside0.mk (Kd.R_below (kr HO681) hb); have n2_ := Aside0.mk (Kd.R_below (kr HO685) hb); have n3_ := Aside0.mk (below_step bel hb); clear HO678; clear HO681; clear HO685; clear HB; have HO678 := n0_; have HO681 := n1_; have HO685 := n2_; have HB := n3_; clear n0_ n1_ n2_ n3_; (try clear hb)))
           repeat (go_quiet (first | (go_at_call 18; (with_reducible refine (gimbalref04_Whole.calls kj20 a0 t676 _ A31.out).mono ?_); rintro e w40 ⟨v677, rfl, ho0, hb⟩; have n0_ := Aside0.mk (Kd.R_lower ho0 (below_size bel)); have n1_ := Aside0.mk (below_step bel hb); clear HB; have HO678 := n0_; have HB := n1_; clear n0_ n1_; (try clear hb); (try clear ho0)) | (go_at_call 18; (with_reducible refine (gimbalref04_Whole.calls kj20 a1 t679 _ A32.out).mono ?_); rintro e w41 ⟨v680, rfl, ho0, hb⟩; have n0_ := Aside0.mk (Kd.R_elder' (kr HO678) (Kd.R_base ho0) hb); have n1_ := Aside0.mk (Kd.R_lower (Kd.R_new' ho0 (Kd.R_lt (kr HO678))) (below_size bel)); have n2_ := Aside0.mk (below_step bel hb); clear HO678; clear HB; have HO678 := n0_; have HO681 := n1_; have HB := n2_; clear n0_ n1_ n2_; (try clear hb); (try clear ho0)) | (go_at_call 44; (with_reducible refine (gimbalref04_Neg.calls a0 t682 _ A33.out).mono ?_); rintro e w' ⟨rfl, ⟨nd, rfl⟩⟩; (try first | exact ⟨rfl, _, World.drewN_drewN _ _ _⟩ | exact ⟨rfl, _, Eq.trans (World.drewN_drewN _ _ _) (congrArg (World.drewN _) (Nat.add_assoc _ _ _))⟩); obtain ⟨Ao42, co42, eo42⟩ := Kd.R_slice HO678.out; subst eo42; obtain ⟨Ao43, co43, eo43⟩ := Kd.R_slice HO681.out; subst eo43) | (go_at_call 62; (with_reducible refine (gimbalref02_Add.calls kj20 _ _ t676 _ _ t679 t683 _ ?side1 ?side2 ?side3 ?side4 A34.out).mono ?_); (case side1 => exact ks HO678); (case side2 => exact (Kd.R_reads' HO678.out).2.1); (case side3 => exact ks HO681); (case side4 => exact (Kd.R_reads' HO681.out).2.1); rintro e w44 ⟨v684, rfl, ho0, hb⟩; have n0_ := Aside0.mk (Kd.R_elder' (kr HO678) (Kd.R_base ho0) hb); have n1_ := Aside0.mk (Kd.R_elder' (kr HO681) (Kd.R_base ho0) hb); have n2_ := Aside0.mk (Kd.R_lower (Kd.R_new' (Kd.R_new' ho0 (Kd.R_lt (kr HO678))) (Kd.R_lt (kr HO681))) (below_size bel)); have n3_ := Aside0.mk (below_step bel hb); clear HO678; clear HO681; clear HB; have HO678 := n0_; have HO681 := n1_; have HO685 := n2_; have HB := n3_; clear n0_ n1_ n2_ n3_; (try clear hb); (try clear ho0)) | (go_at_call 44; (with_reducible refine (gimbalref04_Neg.calls a0 t686 _ A35.out).mono ?_); rintro e w' ⟨rfl, ⟨nd, rfl⟩⟩; (try first | exact ⟨rfl, _, World.drewN_drewN _ _ _⟩ | exact ⟨rfl, _, Eq.trans (World.drewN_drewN _ _ _) (congrArg (World.drewN _) (Nat.add_assoc _ _ _))⟩)) | (go_at_call 44; (with_reducible refine (gimbalref04_Neg.calls a1 t687 _ A36.out).mono ?_); rintro e w' ⟨rfl, ⟨nd, rfl⟩⟩; (try first | exact ⟨rfl, _, World.drewN_drewN _ _ _⟩ | exact ⟨rfl, _, Eq.trans (World.drewN_drewN _ _ _) (congrArg (World.drewN _) (Nat.add_assoc _ _ _))⟩)) | (go_at_call 20; (with_reducible refine (gimbalref02_Cmp.calls kj20 _ _ t676 _ _ t679 t688 _ ?side1 ?side2 ?side3 ?side4 A38.out).mono ?_); (case side1 => exact ks HO678); (case side2 => exact (Kd.R_reads' HO678.out).2.1); (case side3 => exact ks HO681); (case side4 => exact (Kd.R_reads' HO681.out).2.1); rintro e w45 ⟨rfl, hb⟩; have n0_ := Aside0.mk (Kd.R_below (kr HO678) hb); have n1_ := Aside0.mk (Kd.R_below (kr HO681) hb); have n2_ := Aside0.mk (Kd.R_below (kr HO685) hb); have n3_ := Aside0.mk (below_step bel hb); clear HO678; clear HO681; clear HO685; clear HB; have HO678 := n0_; have HO681 := n1_; have HO685 := n2_; have HB := n3_; clear n0_ n1_ n2_ n3_; (try clear hb))); go_upto_if 68 with (first | (go_at_call 18; (with_reducible refine (gimbalref04_Whole.calls kj20 a0 t676 _ A31.out).mono ?_); rintro e w40 ⟨v677, rfl, ho0, hb⟩; have n0_ := Aside0.mk (Kd.R_lower ho0 (below_size bel)); have n1_ := Aside0.mk (below_step bel hb); clear HB; have HO678 := n0_; have HB := n1_; clear n0_ n1_; (try clear hb); (try clear ho0)) | (go_at_call 18; (with_reducible refine (gimbalref04_Whole.calls kj20 a1 t679 _ A32.out).mono ?_); rintro e w41 ⟨v680, rfl, ho0, hb⟩; have n0_ := Aside0.mk (Kd.R_elder' (kr HO678) (Kd.R_base ho0) hb); have n1_ := Aside0.mk (Kd.R_lower (Kd.R_new' ho0 (Kd.R_lt (kr HO678))) (below_size bel)); have n2_ := Aside0.mk (below_step bel hb); clear HO678; clear HB; have HO678 := n0_; have HO681 := n1_; have HB := n2_; clear n0_ n1_ n2_; (try clear hb); (try clear ho0)) | (go_at_call 44; (with_reducible refine (gimbalref04_Neg.calls a0 t682 _ A33.out).mono ?_); rintro e w' ⟨rfl, ⟨nd, rfl⟩⟩; (try first | exact ⟨rfl, _, World.drewN_drewN _ _ _⟩ | exact ⟨rfl, _, Eq.trans (World.drewN_drewN _ _ _) (congrArg (World.drewN _) (Nat.add_assoc _ _ _))⟩); obtain ⟨Ao42, co42, eo42⟩ := Kd.R_slice HO678.out; subst eo42; obtain ⟨Ao43, co43, eo43⟩ := Kd.R_slice HO681.out; subst eo43) | (go_at_call 62; (with_reducible refine (gimbalref02_Add.calls kj20 _ _ t676 _ _ t679 t683 _ ?side1 ?side2 ?side3 ?side4 A34.out).mono ?_); (case side1 => exact ks HO678); (case side2 => exact (Kd.R_reads' HO678.out).2.1); (case side3 => exact ks HO681); (case side4 => exact (Kd.R_reads' HO681.out).2.1); rintro e w44 ⟨v684, rfl, ho0, hb⟩; have n0_ := Aside0.mk (Kd.R_elder' (kr HO678) (Kd.R_base ho0) hb); have n1_ := Aside0.mk (Kd.R_elder' (kr HO681) (Kd.R_base ho0) hb); have n2_ := Aside0.mk (Kd.R_lower (Kd.R_new' (Kd.R_new' ho0 (Kd.R_lt (kr HO678))) (Kd.R_lt (kr HO681))) (below_size bel)); have n3_ := Aside0.mk (below_step bel hb); clear HO678; clear HO681; clear HB; have HO678 := n0_; have HO681 := n1_; have HO685 := n2_; have HB := n3_; clear n0_ n1_ n2_ n3_; (try clear hb); (try clear ho0)) | (go_at_call 44; (with_reducible refine (gimbalref04_Neg.calls a0 t686 _ A35.out).mono ?_); rintro e w' ⟨rfl, ⟨nd, rfl⟩⟩; (try first | exact ⟨rfl, _, World.drewN_drewN _ _ _⟩ | exact ⟨rfl, _, Eq.trans (World.drewN_drewN _ _ _) (congrArg (World.drewN _) (Nat.add_assoc _ _ _))⟩)) | (go_at_call 44; (with_reducible refine (gimbalref04_Neg.calls a1 t687 _ A36.out).mono ?_); rintro e w' ⟨rfl, ⟨nd, rfl⟩⟩; (try first | exact ⟨rfl, _, World.drewN_drewN _ _ _⟩ | exact ⟨rfl, _, Eq.trans (World.drewN_drewN _ _ _) (congrArg (World.drewN _) (Nat.add_assoc _ _ _))⟩)) | (go_at_call 20; (with_reducible refine (gimbalref02_Cmp.calls kj20 _ _ t676 _ _ t679 t688 _ ?side1 ?side2 ?side3 ?side4 A38.out).mono ?_); (case side1 => exact ks HO678); (case side2 => exact (Kd.R_reads' HO678.out).2.1); (case side3 => exact ks HO681); (case side4 => exact (Kd.R_reads' HO681.out).2.1); rintro e w45 ⟨rfl, hb⟩; have n0_ := Aside0.mk (Kd.R_below (kr HO678) hb); have n1_ := Aside0.mk (Kd.R_below (kr HO681) hb); have n2_ := Aside0.mk (Kd.R_below (kr HO685) hb); have n3_ := Aside0.mk (below_step bel hb); clear HO678; clear HO681; clear HO685; clear HB; have HO678 := n0_; have HO681 := n1_; have HO685 := n2_; have HB := n3_; clear n0_ n1_ n2_ n3_; (try clear hb))))
           (try simp only [Act.put, List.setIfInBounds_toArray, List.set_cons_zero, List.set_cons_succ])
           go_cut [8, 9, 10] (fun v8 v9 v10 wc => ∃ (kq : Nat) (x8_38 : List Int) (x9_38 : List Int) (x10_38 : Bool), v10 = .bool x10_38 ∧ Aside0 (gimbalref04_Add.j2 kq x8_38 x9_38 x10_38 = some (r1, r2)) ∧ Aside0 (kq ≤ kj20) ∧ Aside0 (Kd.R (Kd.int .i64) 3 wc w.heap.size (fun k_ => some k_ ≠ (v9 : Value).ownBlock) v8 x8_38) ∧ Aside0 (Kd.R (Kd.int .i64) 3 wc w.heap.size (fun k_ => some k_ ≠ (v8 : Value).ownBlock) v9 x9_38) ∧ Aside0 (Below w.heap.size w wc))
           case first =>
            have H := HC39.out
            clear HC39
            by_cases c46 : t688 < 0
            ·
             rw [if_pos c46] at H
             have c46b0 : decide (t688 < 0) = true := decide_eq_true c46
             clear c46
             (first | rw [c46b0] | (simp only [i64_w, i32_w]; rw [c46b0]) | skip)
             obtain ⟨t689, A470, H⟩ := Option.bind_eq_some_iff.mp H
             (try dsimp -simprocs only at H)
             have A47 := Aside0.mk A470
             clear A470
             have H' := Aside0.mk H
             clear H
             go_wp2_with (first | (go_at_call 44; (with_reducible refine (gimbalref04_Neg.calls a1 t689 _ A47.out).mono ?_); rintro e w' ⟨rfl, ⟨nd, rfl⟩⟩; (try first | exact ⟨rfl, _, World.drewN_drewN _ _ _⟩ | exact ⟨rfl, _, Eq.trans (World.drewN_drewN _ _ _) (congrArg (World.drewN _) (Nat.add_assoc _ _ _))⟩)))
             repeat (go_quiet (first | (go_at_call 44; (with_reducible refine (gimbalref04_Neg.calls a1 t689 _ A47.out).mono ?_); rintro e w' ⟨rfl, ⟨nd, rfl⟩⟩; (try first | exact ⟨rfl, _, World.drewN_drewN _ _ _⟩ | exact ⟨rfl, _, Eq.trans (World.drewN_drewN _ _ _) (congrArg (World.drewN _) (Nat.add_assoc _ _ _))⟩))); try go_wp2_with (first | (go_at_call 44; (with_reducible refine (gimbalref04_Neg.calls a1 t689 _ A47.out).mono ?_); rintro e w' ⟨rfl, ⟨nd, rfl⟩⟩; (try first | exact ⟨rfl, _, World.drewN_drewN _ _ _⟩ | exact ⟨rfl, _, Eq.trans (World.drewN_drewN _ _ _) (congrArg (World.drewN _) (Nat.add_assoc _ _ _))⟩))))
             go_meet
             case rel => exact ⟨_, (t679), (t676), (t689), (by first | rfl | (simp; done) | (simp [*]; done)), H', ⟨by have := HJ7.out; have := HJ20.out; first | omega | exact Nat.le_refl _⟩, ⟨by (with_reducible repeat (first | apply Kd.R_alloc | apply Kd.R_drewN | apply Kd.R_drew)); exact Kd.R_mono HO681.out (fun _ hk => hk.1.2)⟩, ⟨by (with_reducible repeat (first | apply Kd.R_alloc | apply Kd.R_drewN | apply Kd.R_drew)); exact Kd.R_mono HO678.out (fun _ hk => hk.1.2)⟩, ⟨bel⟩⟩
            ·
             rw [if_neg c46] at H
             have c46b0 : decide (t688 < 0) = false := decide_eq_false c46
             clear c46
             (first | rw [c46b0] | (simp only [i64_w, i32_w]; rw [c46b0]) | skip)
             have H' := Aside0.mk H
             clear H
             go_wp2
             repeat (go_quiet (fail); try go_wp2)
             go_meet
             case rel => exact ⟨_, (t676), (t679), (t682), (by first | rfl | (simp; done) | (simp [*]; done)), H', ⟨by have := HJ7.out; have := HJ20.out; first | omega | exact Nat.le_refl _⟩, ⟨by (with_reducible repeat (first | apply Kd.R_alloc | apply Kd.R_drewN | apply Kd.R_drew)); exact Kd.R_mono HO678.out (fun _ hk => hk.1.2)⟩, ⟨by (with_reducible repeat (first | apply Kd.R_alloc | apply Kd.R_drewN | apply Kd.R_drew)); exact Kd.R_mono HO681.out (fun _ hk => hk.1.2)⟩, ⟨bel⟩⟩
           case rest =>
            clear HC39
            try clear c1
            try clear c2
            try clear p2
            try clear c3
            try clear c4
            try clear c6
            try clear c13
            try clear c15
            try clear c16
            try clear c16b0
            try clear c16b1
            try clear c18
            try clear c20
            try clear c23
            try clear c25
            try clear c27
            try clear c37
            try clear c37b0
            try clear c37b1
            try clear c37b2
            try clear c46
            try clear c46b0
            try clear p2
            obtain ⟨kq, x8_38, x9_38, x10_38, rfl, HA, HJ38, HO_8, HO_9, HB⟩ := hcut
            cases kq with
            | zero => exact absurd HA.out (by simp [gimbalref04_Add.j2])
            | succ kj38 =>
             have H := HA.out
             clear HA
             simp only [gimbalref04_Add.j2] at H
             obtain ⟨t690, A480, H⟩ := Option.bind_eq_some_iff.mp H
             (try dsimp -simprocs only at H)
             have A48 := Aside0.mk A480
             clear A480
             by_cases c49 : (t690.length : Int) = 0
             ·
              rw [if_pos c49] at H
              have c49b0 : ((t690.length : Int) == 0) = true := beq_iff_eq.mpr c49
              have c49b1 : ((t690.length : Int) != 0) = false := bne_eq_false_iff_eq.mpr c49
              clear c49
              simp only [Option.some.injEq, Prod.mk.injEq] at H
              obtain ⟨rfl, rfl⟩ := H
              obtain ⟨Ao50, co50, eo50⟩ := Kd.R_slice HO_8.out
              subst eo50
              obtain ⟨Ao51, co51, eo51⟩ := Kd.R_slice HO_9.out
              subst eo51
              go_wp2_with (first | (go_at_call 63; (with_reducible refine (gimbalref02_Sub.calls kj38 _ _ x8_38 _ _ x9_38 t690 _ ?side1 ?side2 ?side3 ?side4 A48.out).mono ?_); (case side1 => exact ks HO_8); (case side2 => exact (Kd.R_reads' HO_8.out).2.1); (case side3 => exact ks HO_9); (case side4 => exact (Kd.R_reads' HO_9.out).2.1); rintro e w52 ⟨v691, rfl, ho0, hb⟩; have n0_ := Aside0.mk (Kd.R_elder' (kr HO_8) (Kd.R_base ho0) hb); have n1_ := Aside0.mk (Kd.R_elder' (kr HO_9) (Kd.R_base ho0) hb); have n2_ := Aside0.mk (Kd.R_lower (Kd.R_new' (Kd.R_new' ho0 (Kd.R_lt (kr HO_8))) (Kd.R_lt (kr HO_9))) (below_size bel)); have n3_ := Aside0.mk (below_step bel hb); clear HO_8; clear HO_9; clear HB; have HO_8 := n0_; have HO_9 := n1_; have HO692 := n2_; have HB := n3_; clear n0_ n1_ n2_ n3_; (try clear hb); (try clear ho0); obtain ⟨Ao53, co53, eo53⟩ := Kd.R_slice HO692.out; subst eo53))
              repeat (go_quiet (first | (go_at_call 63; (with_reducible refine (gimbalref02_Sub.calls kj38 _ _ x8_38 _ _ x9_38 t690 _ ?side1 ?side2 ?side3 ?side4 A48.out).mono ?_); (case side1 => exact ks HO_8); (case side2 => exact (Kd.R_reads' HO_8.out).2.1); (case side3 => exact ks HO_9); (case side4 => exact (Kd.R_reads' HO_9.out).2.1); rintro e w52 ⟨v691, rfl, ho0, hb⟩; have n0_ := Aside0.mk (Kd.R_elder' (kr HO_8) (Kd.R_base ho0) hb); have n1_ := Aside0.mk (Kd.R_elder' (kr HO_9) (Kd.R_base ho0) hb); have n2_ := Aside0.mk (Kd.R_lower (Kd.R_new' (Kd.R_new' ho0 (Kd.R_lt (kr HO_8))) (Kd.R_lt (kr HO_9))) (below_size bel)); have n3_ := Aside0.mk (below_step bel hb); clear HO_8; clear HO_9; clear HB; have HO_8 := n0_; have HO_9 := n1_; have HO692 := n2_; have HB := n3_; clear n0_ n1_ n2_ n3_; (try clear hb); (try clear ho0); obtain ⟨Ao53, co53, eo53⟩ := Kd.R_slice HO692.out; subst eo53)); try go_wp2_with (first | (go_at_call 63; (with_reducible refine (gimbalref02_Sub.calls kj38 _ _ x8_38 _ _ x9_38 t690 _ ?side1 ?side2 ?side3 ?side4 A48.out).mono ?_); (case side1 => exact ks HO_8); (case side2 => exact (Kd.R_reads' HO_8.out).2.1); (case side3 => exact ks HO_9); (case side4 => exact (Kd.R_reads' HO_9.out).2.1); rintro e w52 ⟨v691, rfl, ho0, hb⟩; have n0_ := Aside0.mk (Kd.R_elder' (kr HO_8) (Kd.R_base ho0) hb); have n1_ := Aside0.mk (Kd.R_elder' (kr HO_9) (Kd.R_base ho0) hb); have n2_ := Aside0.mk (Kd.R_lower (Kd.R_new' (Kd.R_new' ho0 (Kd.R_lt (kr HO_8))) (Kd.R_lt (kr HO_9))) (below_size bel)); have n3_ := Aside0.mk (below_step bel hb); clear HO_8; clear HO_9; clear HB; have HO_8 := n0_; have HO_9 := n1_; have HO692 := n2_; have HB := n3_; clear n0_ n1_ n2_ n3_; (try clear hb); (try clear ho0); obtain ⟨Ao53, co53, eo53⟩ := Kd.R_slice HO692.out; subst eo53)))
              go_ret2
              exact ⟨er, bel⟩
             ·
              rw [if_neg c49] at H
              have c49b0 : ((t690.length : Int) == 0) = false := beq_eq_false_iff_ne.mpr c49
              have c49b1 : ((t690.length : Int) != 0) = true := bne_iff_ne.mpr c49
              have c49b2 : ¬ (t690 = []) := fun h_ => c49 (by rw [h_]; rfl)
              obtain ⟨⟨t693, t694⟩, A540, H⟩ := Option.bind_eq_some_iff.mp H
              (try dsimp -simprocs only at H)
              have A54 := Aside0.mk A540
              clear A540
              simp only [Option.some.injEq, Prod.mk.injEq] at H
              obtain ⟨rfl, rfl⟩ := H
              obtain ⟨Ao55, co55, eo55⟩ := Kd.R_slice HO_8.out
              subst eo55
              obtain ⟨Ao56, co56, eo56⟩ := Kd.R_slice HO_9.out
              subst eo56
              go_wp2_with (first | (go_at_call 63; (with_reducible refine (gimbalref02_Sub.calls kj38 _ _ x8_38 _ _ x9_38 t690 _ ?side1 ?side2 ?side3 ?side4 A48.out).mono ?_); (case side1 => exact ks HO_8); (case side2 => exact (Kd.R_reads' HO_8.out).2.1); (case side3 => exact ks HO_9); (case side4 => exact (Kd.R_reads' HO_9.out).2.1); rintro e w57 ⟨v691, rfl, ho0, hb⟩; have n0_ := Aside0.mk (Kd.R_elder' (kr HO_8) (Kd.R_base ho0) hb); have n1_ := Aside0.mk (Kd.R_elder' (kr HO_9) (Kd.R_base ho0) hb); have n2_ := Aside0.mk (Kd.R_lower (Kd.R_new' (Kd.R_new' ho0 (Kd.R_lt (kr HO_8))) (Kd.R_lt (kr HO_9))) (below_size bel)); have n3_ := Aside0.mk (below_step bel hb); clear HO_8; clear HO_9; clear HB; have HO_8 := n0_; have HO_9 := n1_; have HO692 := n2_; have HB := n3_; clear n0_ n1_ n2_ n3_; (try clear hb); (try clear ho0); obtain ⟨Ao58, co58, eo58⟩ := Kd.R_slice HO692.out; subst eo58) | (go_at_call 47; (with_reducible refine (gimbalref03_Round.calls kj38 x10_38 _ _ t690 (-1074) false t693 t694 _ ?side1 ?side2 A54.out).mono ?_); (case side1 => exact ks HO692); (case side2 => exact (Kd.R_reads' HO692.out).2.1); rintro e w59 ⟨rfl, hb⟩; have n0_ := Aside0.mk (Kd.R_below (kr HO_8) hb); have n1_ := Aside0.mk (Kd.R_below (kr HO_9) hb); have n2_ := Aside0.mk (Kd.R_below (kr HO692) hb); have n3_ := Aside0.mk (below_step bel hb); clear HO_8; clear HO_9; clear HO692; clear HB; have HO_8 := n0_; have HO_9 := n1_; have HO692 := n2_; have HB := n3_; clear n0_ n1_ n2_ n3_; (try clear hb)) | ((with_reducible refine gate_dst (N := 12) rfl ?_); refine box_event ?hg (N := 12) ?hd (cs := #[.int .u64 0, .int .i64 0]) (t := 66) ?hr ?_; (case hd => rfl); (case hg => rfl); (case hr => first | (go_simp; done) | (go_simp; rfl)); intro gb695 hg w60 hbox hb; have n0_ := Aside0.mk (Kd.R_below (kr HO_8) hb); have n1_ := Aside0.mk (Kd.R_below (kr HO_9) hb); have n2_ := Aside0.mk (Kd.R_below (kr HO692) hb); have n3_ := Aside0.mk (below_step bel hb); have n4_ := Aside0.mk (hbox); have n5_ := Aside0.mk ((by rw [hg]; exact (below_size bel) : w.heap.size ≤ gb695)); have n6_ := Aside0.mk ((by rw [hg]; exact (below_size bel) : w.heap.size ≤ gb695)); clear HO_8; clear HO_9; clear HO692; clear HB; have HO_8 := n0_; have HO_9 := n1_; have HO692 := n2_; have HB := n3_; have BK695 := n4_; have GW695 := n5_; have GE695 := n6_; clear n0_ n1_ n2_ n3_ n4_ n5_ n6_; clear hb hbox hg; have hcz61_0 : w60.cell? ⟨gb695, 0, none⟩ = some (.int .u64 0) := (blk_cell BK695.out 0).trans rfl; have hcz61_1 : w60.cell? ⟨gb695, 1, none⟩ = some (.int .i64 0) := (blk_cell BK695.out 1).trans rfl; have hfz61_0 := blk_frozen BK695.out 0; have hfz61_1 := blk_frozen BK695.out 1))
              repeat (go_quiet (first | (go_at_call 63; (with_reducible refine (gimbalref02_Sub.calls kj38 _ _ x8_38 _ _ x9_38 t690 _ ?side1 ?side2 ?side3 ?side4 A48.out).mono ?_); (case side1 => exact ks HO_8); (case side2 => exact (Kd.R_reads' HO_8.out).2.1); (case side3 => exact ks HO_9); (case side4 => exact (Kd.R_reads' HO_9.out).2.1); rintro e w57 ⟨v691, rfl, ho0, hb⟩; have n0_ := Aside0.mk (Kd.R_elder' (kr HO_8) (Kd.R_base ho0) hb); have n1_ := Aside0.mk (Kd.R_elder' (kr HO_9) (Kd.R_base ho0) hb); have n2_ := Aside0.mk (Kd.R_lower (Kd.R_new' (Kd.R_new' ho0 (Kd.R_lt (kr HO_8))) (Kd.R_lt (kr HO_9))) (below_size bel)); have n3_ := Aside0.mk (below_step bel hb); clear HO_8; clear HO_9; clear HB; have HO_8 := n0_; have HO_9 := n1_; have HO692 := n2_; have HB := n3_; clear n0_ n1_ n2_ n3_; (try clear hb); (try clear ho0); obtain ⟨Ao58, co58, eo58⟩ := Kd.R_slice HO692.out; subst eo58) | (go_at_call 47; (with_reducible refine (gimbalref03_Round.calls kj38 x10_38 _ _ t690 (-1074) false t693 t694 _ ?side1 ?side2 A54.out).mono ?_); (case side1 => exact ks HO692); (case side2 => exact (Kd.R_reads' HO692.out).2.1); rintro e w59 ⟨rfl, hb⟩; have n0_ := Aside0.mk (Kd.R_below (kr HO_8) hb); have n1_ := Aside0.mk (Kd.R_below (kr HO_9) hb); have n2_ := Aside0.mk (Kd.R_below (kr HO692) hb); have n3_ := Aside0.mk (below_step bel hb); clear HO_8; clear HO_9; clear HO692; clear HB; have HO_8 := n0_; have HO_9 := n1_; have HO692 := n2_; have HB := n3_; clear n0_ n1_ n2_ n3_; (try clear hb)) | ((with_reducible refine gate_dst (N := 12) rfl ?_); refine box_event ?hg (N := 12) ?hd (cs := #[.int .u64 0, .int .i64 0]) (t := 66) ?hr ?_; (case hd => rfl); (case hg => rfl); (case hr => first | (go_simp; done) | (go_simp; rfl)); intro gb695 hg w60 hbox hb; have n0_ := Aside0.mk (Kd.R_below (kr HO_8) hb); have n1_ := Aside0.mk (Kd.R_below (kr HO_9) hb); have n2_ := Aside0.mk (Kd.R_below (kr HO692) hb); have n3_ := Aside0.mk (below_step bel hb); have n4_ := Aside0.mk (hbox); have n5_ := Aside0.mk ((by rw [hg]; exact (below_size bel) : w.heap.size ≤ gb695)); have n6_ := Aside0.mk ((by rw [hg]; exact (below_size bel) : w.heap.size ≤ gb695)); clear HO_8; clear HO_9; clear HO692; clear HB; have HO_8 := n0_; have HO_9 := n1_; have HO692 := n2_; have HB := n3_; have BK695 := n4_; have GW695 := n5_; have GE695 := n6_; clear n0_ n1_ n2_ n3_ n4_ n5_ n6_; clear hb hbox hg; have hcz61_0 : w60.cell? ⟨gb695, 0, none⟩ = some (.int .u64 0) := (blk_cell BK695.out 0).trans rfl; have hcz61_1 : w60.cell? ⟨gb695, 1, none⟩ = some (.int .i64 0) := (blk_cell BK695.out 1).trans rfl; have hfz61_0 := blk_frozen BK695.out 0; have hfz61_1 := blk_frozen BK695.out 1)); try go_wp2_with (first | (go_at_call 63; (with_reducible refine (gimbalref02_Sub.calls kj38 _ _ x8_38 _ _ x9_38 t690 _ ?side1 ?side2 ?side3 ?side4 A48.out).mono ?_); (case side1 => exact ks HO_8); (case side2 => exact (Kd.R_reads' HO_8.out).2.1); (case side3 => exact ks HO_9); (case side4 => exact (Kd.R_reads' HO_9.out).2.1); rintro e w57 ⟨v691, rfl, ho0, hb⟩; have n0_ := Aside0.mk (Kd.R_elder' (kr HO_8) (Kd.R_base ho0) hb); have n1_ := Aside0.mk (Kd.R_elder' (kr HO_9) (Kd.R_base ho0) hb); have n2_ := Aside0.mk (Kd.R_lower (Kd.R_new' (Kd.R_new' ho0 (Kd.R_lt (kr HO_8))) (Kd.R_lt (kr HO_9))) (below_size bel)); have n3_ := Aside0.mk (below_step bel hb); clear HO_8; clear HO_9; clear HB; have HO_8 := n0_; have HO_9 := n1_; have HO692 := n2_; have HB := n3_; clear n0_ n1_ n2_ n3_; (try clear hb); (try clear ho0); obtain ⟨Ao58, co58, eo58⟩ := Kd.R_slice HO692.out; subst eo58) | (go_at_call 47; (with_reducible refine (gimbalref03_Round.calls kj38 x10_38 _ _ t690 (-1074) false t693 t694 _ ?side1 ?side2 A54.out).mono ?_); (case side1 => exact ks HO692); (case side2 => exact (Kd.R_reads' HO692.out).2.1); rintro e w59 ⟨rfl, hb⟩; have n0_ := Aside0.mk (Kd.R_below (kr HO_8) hb); have n1_ := Aside0.mk (Kd.R_below (kr HO_9) hb); have n2_ := Aside0.mk (Kd.R_below (kr HO692) hb); have n3_ := Aside0.mk (below_step bel hb); clear HO_8; clear HO_9; clear HO692; clear HB; have HO_8 := n0_; have HO_9 := n1_; have HO692 := n2_; have HB := n3_; clear n0_ n1_ n2_ n3_; (try clear hb)) | ((with_reducible refine gate_dst (N := 12) rfl ?_); refine box_event ?hg (N := 12) ?hd (cs := #[.int .u64 0, .int .i64 0]) (t := 66) ?hr ?_; (case hd => rfl); (case hg => rfl); (case hr => first | (go_simp; done) | (go_simp; rfl)); intro gb695 hg w60 hbox hb; have n0_ := Aside0.mk (Kd.R_below (kr HO_8) hb); have n1_ := Aside0.mk (Kd.R_below (kr HO_9) hb); have n2_ := Aside0.mk (Kd.R_below (kr HO692) hb); have n3_ := Aside0.mk (below_step bel hb); have n4_ := Aside0.mk (hbox); have n5_ := Aside0.mk ((by rw [hg]; exact (below_size bel) : w.heap.size ≤ gb695)); have n6_ := Aside0.mk ((by rw [hg]; exact (below_size bel) : w.heap.size ≤ gb695)); clear HO_8; clear HO_9; clear HO692; clear HB; have HO_8 := n0_; have HO_9 := n1_; have HO692 := n2_; have HB := n3_; have BK695 := n4_; have GW695 := n5_; have GE695 := n6_; clear n0_ n1_ n2_ n3_ n4_ n5_ n6_; clear hb hbox hg; have hcz61_0 : w60.cell? ⟨gb695, 0, none⟩ = some (.int .u64 0) := (blk_cell BK695.out 0).trans rfl; have hcz61_1 : w60.cell? ⟨gb695, 1, none⟩ = some (.int .i64 0) := (blk_cell BK695.out 1).trans rfl; have hfz61_0 := blk_frozen BK695.out 0; have hfz61_1 := blk_frozen BK695.out 1)))
              go_ret2
              exact ⟨er, bes⟩
          ·
           rw [if_neg c37] at H
           have c37b0 : (t686 != t687) = false := by simpa using c37
           (try (have c37b1 : decide (t686 = t687) = true := by simpa using c37))
           (try (have c37b2 : (t686 == t687) = true := by simpa using c37))
           clear c37
           obtain ⟨⟨t696, t697⟩, A620, H⟩ := Option.bind_eq_some_iff.mp H
           (try dsimp -simprocs only at H)
           have A62 := Aside0.mk A620
           clear A620
           simp only [Option.some.injEq, Prod.mk.injEq] at H
           obtain ⟨rfl, rfl⟩ := H
           go_wp2_with (first | (go_at_call 18; (with_reducible refine (gimbalref04_Whole.calls kj20 a0 t676 _ A31.out).mono ?_); rintro e w63 ⟨v677, rfl, ho0, hb⟩; have n0_ := Aside0.mk (Kd.R_lower ho0 (below_size bel)); have n1_ := Aside0.mk (below_step bel hb); clear HB; have HO678 := n0_; have HB := n1_; clear n0_ n1_; (try clear hb); (try clear ho0)) | (go_at_call 18; (with_reducible refine (gimbalref04_Whole.calls kj20 a1 t679 _ A32.out).mono ?_); rintro e w64 ⟨v680, rfl, ho0, hb⟩; have n0_ := Aside0.mk (Kd.R_elder' (kr HO678) (Kd.R_base ho0) hb); have n1_ := Aside0.mk (Kd.R_lower (Kd.R_new' ho0 (Kd.R_lt (kr HO678))) (below_size bel)); have n2_ := Aside0.mk (below_step bel hb); clear HO678; clear HB; have HO678 := n0_; have HO681 := n1_; have HB := n2_; clear n0_ n1_ n2_; (try clear hb); (try clear ho0)) | (go_at_call 44; (with_reducible refine (gimbalref04_Neg.calls a0 t682 _ A33.out).mono ?_); rintro e w' ⟨rfl, ⟨nd, rfl⟩⟩; (try first | exact ⟨rfl, _, World.drewN_drewN _ _ _⟩ | exact ⟨rfl, _, Eq.trans (World.drewN_drewN _ _ _) (congrArg (World.drewN _) (Nat.add_assoc _ _ _))⟩); obtain ⟨Ao65, co65, eo65⟩ := Kd.R_slice HO678.out; subst eo65; obtain ⟨Ao66, co66, eo66⟩ := Kd.R_slice HO681.out; subst eo66) | (go_at_call 62; (with_reducible refine (gimbalref02_Add.calls kj20 _ _ t676 _ _ t679 t683 _ ?side1 ?side2 ?side3 ?side4 A34.out).mono ?_); (case side1 => exact ks HO678); (case side2 => exact (Kd.R_reads' HO678.out).2.1); (case side3 => exact ks HO681); (case side4 => exact (Kd.R_reads' HO681.out).2.1); rintro e w67 ⟨v684, rfl, ho0, hb⟩; have n0_ := Aside0.mk (Kd.R_elder' (kr HO678) (Kd.R_base ho0) hb); have n1_ := Aside0.mk (Kd.R_elder' (kr HO681) (Kd.R_base ho0) hb); have n2_ := Aside0.mk (Kd.R_lower (Kd.R_new' (Kd.R_new' ho0 (Kd.R_lt (kr HO678))) (Kd.R_lt (kr HO681))) (below_size bel)); have n3_ := Aside0.mk (below_step bel hb); clear HO678; clear HO681; clear HB; have HO678 := n0_; have HO681 := n1_; have HO685 := n2_; have HB := n3_; clear n0_ n1_ n2_ n3_; (try clear hb); (try clear ho0)) | (go_at_call 44; (with_reducible refine (gimbalref04_Neg.calls a0 t686 _ A35.out).mono ?_); rintro e w' ⟨rfl, ⟨nd, rfl⟩⟩; (try first | exact ⟨rfl, _, World.drewN_drewN _ _ _⟩ | exact ⟨rfl, _, Eq.trans (World.drewN_drewN _ _ _) (congrArg (World.drewN _) (Nat.add_assoc _ _ _))⟩)) | (go_at_call 44; (with_reducible refine (gimbalref04_Neg.calls a1 t687 _ A36.out).mono ?_); rintro e w' ⟨rfl, ⟨nd, rfl⟩⟩; (try first | exact ⟨rfl, _, World.drewN_drewN _ _ _⟩ | exact ⟨rfl, _, Eq.trans (World.drewN_drewN _ _ _) (congrArg (World.drewN _) (Nat.add_assoc _ _ _))⟩); obtain ⟨Ao68, co68, eo68⟩ := Kd.R_slice HO685.out; subst eo68) | (go_at_call 47; (with_reducible refine (gimbalref03_Round.calls kj20 t682 _ _ t683 (-1074) false t696 t697 _ ?side1 ?side2 A62.out).mono ?_); (case side1 => exact ks HO685); (case side2 => exact (Kd.R_reads' HO685.out).2.1); rintro e w69 ⟨rfl, hb⟩; have n0_ := Aside0.mk (Kd.R_below (kr HO678) hb); have n1_ := Aside0.mk (Kd.R_below (kr HO681) hb); have n2_ := Aside0.mk (Kd.R_below (kr HO685) hb); have n3_ := Aside0.mk (below_step bel hb); clear HO678; clear HO681; clear HO685; clear HB; have HO678 := n0_; have HO681 := n1_; have HO685 := n2_; have HB := n3_; clear n0_ n1_ n2_ n3_; (try clear hb)) | ((with_reducible refine gate_dst (N := 12) rfl ?_); refine box_event ?hg (N := 12) ?hd (cs := #[.int .u64 0, .int .i64 0]) (t := 66) ?hr ?_; (case hd => rfl); (case hg => rfl); (case hr => first | (go_simp; done) | (go_simp; rfl)); intro gb698 hg w70 hbox hb; have n0_ := Aside0.mk (Kd.R_below (kr HO678) hb); have n1_ := Aside0.mk (Kd.R_below (kr HO681) hb); have n2_ := Aside0.mk (Kd.R_below (kr HO685) hb); have n3_ := Aside0.mk (below_step bel hb); have n4_ := Aside0.mk (hbox); have n5_ := Aside0.mk ((by rw [hg]; exact (below_size bel) : w.heap.size ≤ gb698)); have n6_ := Aside0.mk ((by rw [hg]; exact (below_size bel) : w.heap.size ≤ gb698)); clear HO678; clear HO681; clear HO685; clear HB; have HO678 := n0_; have HO681 := n1_; have HO685 := n2_; have HB := n3_; have BK698 := n4_; have GW698 := n5_; have GE698 := n6_; clear n0_ n1_ n2_ n3_ n4_ n5_ n6_; clear hb hbox hg; have hcz71_0 : w70.cell? ⟨gb698, 0, none⟩ = some (.int .u64 0) := (blk_cell BK698.out 0).trans rfl; have hcz71_1 : w70.cell? ⟨gb698, 1, none⟩ = some (.int .i64 0) := (blk_cell BK698.out 1).trans rfl; have hfz71_0 := blk_frozen BK698.out 0; have hfz71_1 := blk_frozen BK698.out 1))
           repeat (go_quiet (first | (go_at_call 18; (with_reducible refine (gimbalref04_Whole.calls kj20 a0 t676 _ A31.out).mono ?_); rintro e w63 ⟨v677, rfl, ho0, hb⟩; have n0_ := Aside0.mk (Kd.R_lower ho0 (below_size bel)); have n1_ := Aside0.mk (below_step bel hb); clear HB; have HO678 := n0_; have HB := n1_; clear n0_ n1_; (try clear hb); (try clear ho0)) | (go_at_call 18; (with_reducible refine (gimbalref04_Whole.calls kj20 a1 t679 _ A32.out).mono ?_); rintro e w64 ⟨v680, rfl, ho0, hb⟩; have n0_ := Aside0.mk (Kd.R_elder' (kr HO678) (Kd.R_base ho0) hb); have n1_ := Aside0.mk (Kd.R_lower (Kd.R_new' ho0 (Kd.R_lt (kr HO678))) (below_size bel)); have n2_ := Aside0.mk (below_step bel hb); clear HO678; clear HB; have HO678 := n0_; have HO681 := n1_; have HB := n2_; clear n0_ n1_ n2_; (try clear hb); (try clear ho0)) | (go_at_call 44; (with_reducible refine (gimbalref04_Neg.calls a0 t682 _ A33.out).mono ?_); rintro e w' ⟨rfl, ⟨nd, rfl⟩⟩; (try first | exact ⟨rfl, _, World.drewN_drewN _ _ _⟩ | exact ⟨rfl, _, Eq.trans (World.drewN_drewN _ _ _) (congrArg (World.drewN _) (Nat.add_assoc _ _ _))⟩); obtain ⟨Ao65, co65, eo65⟩ := Kd.R_slice HO678.out; subst eo65; obtain ⟨Ao66, co66, eo66⟩ := Kd.R_slice HO681.out; subst eo66) | (go_at_call 62; (with_reducible refine (gimbalref02_Add.calls kj20 _ _ t676 _ _ t679 t683 _ ?side1 ?side2 ?side3 ?side4 A34.out).mono ?_); (case side1 => exact ks HO678); (case side2 => exact (Kd.R_reads' HO678.out).2.1); (case side3 => exact ks HO681); (case side4 => exact (Kd.R_reads' HO681.out).2.1); rintro e w67 ⟨v684, rfl, ho0, hb⟩; have n0_ := Aside0.mk (Kd.R_elder' (kr HO678) (Kd.R_base ho0) hb); have n1_ := Aside0.mk (Kd.R_elder' (kr HO681) (Kd.R_base ho0) hb); have n2_ := Aside0.mk (Kd.R_lower (Kd.R_new' (Kd.R_new' ho0 (Kd.R_lt (kr HO678))) (Kd.R_lt (kr HO681))) (below_size bel)); have n3_ := Aside0.mk (below_step bel hb); clear HO678; clear HO681; clear HB; have HO678 := n0_; have HO681 := n1_; have HO685 := n2_; have HB := n3_; clear n0_ n1_ n2_ n3_; (try clear hb); (try clear ho0)) | (go_at_call 44; (with_reducible refine (gimbalref04_Neg.calls a0 t686 _ A35.out).mono ?_); rintro e w' ⟨rfl, ⟨nd, rfl⟩⟩; (try first | exact ⟨rfl, _, World.drewN_drewN _ _ _⟩ | exact ⟨rfl, _, Eq.trans (World.drewN_drewN _ _ _) (congrArg (World.drewN _) (Nat.add_assoc _ _ _))⟩)) | (go_at_call 44; (with_reducible refine (gimbalref04_Neg.calls a1 t687 _ A36.out).mono ?_); rintro e w' ⟨rfl, ⟨nd, rfl⟩⟩; (try first | exact ⟨rfl, _, World.drewN_drewN _ _ _⟩ | exact ⟨rfl, _, Eq.trans (World.drewN_drewN _ _ _) (congrArg (World.drewN _) (Nat.add_assoc _ _ _))⟩); obtain ⟨Ao68, co68, eo68⟩ := Kd.R_slice HO685.out; subst eo68) | (go_at_call 47; (with_reducible refine (gimbalref03_Round.calls kj20 t682 _ _ t683 (-1074) false t696 t697 _ ?side1 ?side2 A62.out).mono ?_); (case side1 => exact ks HO685); (case side2 => exact (Kd.R_reads' HO685.out).2.1); rintro e w69 ⟨rfl, hb⟩; have n0_ := Aside0.mk (Kd.R_below (kr HO678) hb); have n1_ := Aside0.mk (Kd.R_below (kr HO681) hb); have n2_ := Aside0.mk (Kd.R_below (kr HO685) hb); have n3_ := Aside0.mk (below_step bel hb); clear HO678; clear HO681; clear HO685; clear HB; have HO678 := n0_; have HO681 := n1_; have HO685 := n2_; have HB := n3_; clear n0_ n1_ n2_ n3_; (try clear hb)) | ((with_reducible refine gate_dst (N := 12) rfl ?_); refine box_event ?hg (N := 12) ?hd (cs := #[.int .u64 0, .int .i64 0]) (t := 66) ?hr ?_; (case hd => rfl); (case hg => rfl); (case hr => first | (go_simp; done) | (go_simp; rfl)); intro gb698 hg w70 hbox hb; have n0_ := Aside0.mk (Kd.R_below (kr HO678) hb); have n1_ := Aside0.mk (Kd.R_below (kr HO681) hb); have n2_ := Aside0.mk (Kd.R_below (kr HO685) hb); have n3_ := Aside0.mk (below_step bel hb); have n4_ := Aside0.mk (hbox); have n5_ := Aside0.mk ((by rw [hg]; exact (below_size bel) : w.heap.size ≤ gb698)); have n6_ := Aside0.mk ((by rw [hg]; exact (below_size bel) : w.heap.size ≤ gb698)); clear HO678; clear HO681; clear HO685; clear HB; have HO678 := n0_; have HO681 := n1_; have HO685 := n2_; have HB := n3_; have BK698 := n4_; have GW698 := n5_; have GE698 := n6_; clear n0_ n1_ n2_ n3_ n4_ n5_ n6_; clear hb hbox hg; have hcz71_0 : w70.cell? ⟨gb698, 0, none⟩ = some (.int .u64 0) := (blk_cell BK698.out 0).trans rfl; have hcz71_1 : w70.cell? ⟨gb698, 1, none⟩ = some (.int .i64 0) := (blk_cell BK698.out 1).trans rfl; have hfz71_0 := blk_frozen BK698.out 0; have hfz71_1 := blk_frozen BK698.out 1)); try go_wp2_with (first | (go_at_call 18; (with_reducible refine (gimbalref04_Whole.calls kj20 a0 t676 _ A31.out).mono ?_); rintro e w63 ⟨v677, rfl, ho0, hb⟩; have n0_ := Aside0.mk (Kd.R_lower ho0 (below_size bel)); have n1_ := Aside0.mk (below_step bel hb); clear HB; have HO678 := n0_; have HB := n1_; clear n0_ n1_; (try clear hb); (try clear ho0)) | (go_at_call 18; (with_reducible refine (gimbalref04_Whole.calls kj20 a1 t679 _ A32.out).mono ?_); rintro e w64 ⟨v680, rfl, ho0, hb⟩; have n0_ := Aside0.mk (Kd.R_elder' (kr HO678) (Kd.R_base ho0) hb); have n1_ := Aside0.mk (Kd.R_lower (Kd.R_new' ho0 (Kd.R_lt (kr HO678))) (below_size bel)); have n2_ := Aside0.mk (below_step bel hb); clear HO678; clear HB; have HO678 := n0_; have HO681 := n1_; have HB := n2_; clear n0_ n1_ n2_; (try clear hb); (try clear ho0)) | (go_at_call 44; (with_reducible refine (gimbalref04_Neg.calls a0 t682 _ A33.out).mono ?_); rintro e w' ⟨rfl, ⟨nd, rfl⟩⟩; (try first | exact ⟨rfl, _, World.drewN_drewN _ _ _⟩ | exact ⟨rfl, _, Eq.trans (World.drewN_drewN _ _ _) (congrArg (World.drewN _) (Nat.add_assoc _ _ _))⟩); obtain ⟨Ao65, co65, eo65⟩ := Kd.R_slice HO678.out; subst eo65; obtain ⟨Ao66, co66, eo66⟩ := Kd.R_slice HO681.out; subst eo66) | (go_at_call 62; (with_reducible refine (gimbalref02_Add.calls kj20 _ _ t676 _ _ t679 t683 _ ?side1 ?side2 ?side3 ?side4 A34.out).mono ?_); (case side1 => exact ks HO678); (case side2 => exact (Kd.R_reads' HO678.out).2.1); (case side3 => exact ks HO681); (case side4 => exact (Kd.R_reads' HO681.out).2.1); rintro e w67 ⟨v684, rfl, ho0, hb⟩; have n0_ := Aside0.mk (Kd.R_elder' (kr HO678) (Kd.R_base ho0) hb); have n1_ := Aside0.mk (Kd.R_elder' (kr HO681) (Kd.R_base ho0) hb); have n2_ := Aside0.mk (Kd.R_lower (Kd.R_new' (Kd.R_new' ho0 (Kd.R_lt (kr HO678))) (Kd.R_lt (kr HO681))) (below_size bel)); have n3_ := Aside0.mk (below_step bel hb); clear HO678; clear HO681; clear HB; have HO678 := n0_; have HO681 := n1_; have HO685 := n2_; have HB := n3_; clear n0_ n1_ n2_ n3_; (try clear hb); (try clear ho0)) | (go_at_call 44; (with_reducible refine (gimbalref04_Neg.calls a0 t686 _ A35.out).mono ?_); rintro e w' ⟨rfl, ⟨nd, rfl⟩⟩; (try first | exact ⟨rfl, _, World.drewN_drewN _ _ _⟩ | exact ⟨rfl, _, Eq.trans (World.drewN_drewN _ _ _) (congrArg (World.drewN _) (Nat.add_assoc _ _ _))⟩)) | (go_at_call 44; (with_reducible refine (gimbalref04_Neg.calls a1 t687 _ A36.out).mono ?_); rintro e w' ⟨rfl, ⟨nd, rfl⟩⟩; (try first | exact ⟨rfl, _, World.drewN_drewN _ _ _⟩ | exact ⟨rfl, _, Eq.trans (World.drewN_drewN _ _ _) (congrArg (World.drewN _) (Nat.add_assoc _ _ _))⟩); obtain ⟨Ao68, co68, eo68⟩ := Kd.R_slice HO685.out; subst eo68) | (go_at_call 47; (with_reducible refine (gimbalref03_Round.calls kj20 t682 _ _ t683 (-1074) false t696 t697 _ ?side1 ?side2 A62.out).mono ?_); (case side1 => exact ks HO685); (case side2 => exact (Kd.R_reads' HO685.out).2.1); rintro e w69 ⟨rfl, hb⟩; have n0_ := Aside0.mk (Kd.R_below (kr HO678) hb); have n1_ := Aside0.mk (Kd.R_below (kr HO681) hb); have n2_ := Aside0.mk (Kd.R_below (kr HO685) hb); have n3_ := Aside0.mk (below_step bel hb); clear HO678; clear HO681; clear HO685; clear HB; have HO678 := n0_; have HO681 := n1_; have HO685 := n2_; have HB := n3_; clear n0_ n1_ n2_ n3_; (try clear hb)) | ((with_reducible refine gate_dst (N := 12) rfl ?_); refine box_event ?hg (N := 12) ?hd (cs := #[.int .u64 0, .int .i64 0]) (t := 66) ?hr ?_; (case hd => rfl); (case hg => rfl); (case hr => first | (go_simp; done) | (go_simp; rfl)); intro gb698 hg w70 hbox hb; have n0_ := Aside0.mk (Kd.R_below (kr HO678) hb); have n1_ := Aside0.mk (Kd.R_below (kr HO681) hb); have n2_ := Aside0.mk (Kd.R_below (kr HO685) hb); have n3_ := Aside0.mk (below_step bel hb); have n4_ := Aside0.mk (hbox); have n5_ := Aside0.mk ((by rw [hg]; exact (below_size bel) : w.heap.size ≤ gb698)); have n6_ := Aside0.mk ((by rw [hg]; exact (below_size bel) : w.heap.size ≤ gb698)); clear HO678; clear HO681; clear HO685; clear HB; have HO678 := n0_; have HO681 := n1_; have HO685 := n2_; have HB := n3_; have BK698 := n4_; have GW698 := n5_; have GE698 := n6_; clear n0_ n1_ n2_ n3_ n4_ n5_ n6_; clear hb hbox hg; have hcz71_0 : w70.cell? ⟨gb698, 0, none⟩ = some (.int .u64 0) := (blk_cell BK698.out 0).trans rfl; have hcz71_1 : w70.cell? ⟨gb698, 1, none⟩ = some (.int .i64 0) := (blk_cell BK698.out 1).trans rfl; have hfz71_0 := blk_frozen BK698.out 0; have hfz71_1 := blk_frozen BK698.out 1)))
           go_ret2
           exact ⟨er, bes⟩

end Go.Proofs.Ytcappkphcjgeoaa.F
