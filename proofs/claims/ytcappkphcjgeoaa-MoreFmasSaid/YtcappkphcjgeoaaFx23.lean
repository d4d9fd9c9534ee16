-- Written by a program of this seat's session (mkprint), out of the translation.
import Derived.Test.YtcappkphcjgeoaaShort
import Derived.Test.YtcappkphcjgeoaaFx0
import Derived.Test.YtcappkphcjgeoaaFx5
import Derived.Test.YtcappkphcjgeoaaFx6
import Derived.Test.YtcappkphcjgeoaaFx9
import Derived.Test.YtcappkphcjgeoaaFx10
import Derived.Test.YtcappkphcjgeoaaFx11
import Derived.Test.YtcappkphcjgeoaaFx13
import Derived.Test.YtcappkphcjgeoaaFx14
import Derived.Test.YtcappkphcjgeoaaFx16
import Derived.Test.YtcappkphcjgeoaaFx22
namespace Go.Proofs.Ytcappkphcjgeoaa.F
open Go.RowKit Go.Proofs.YtcappkphcjgeoaaW.PrintWords Go.Proofs.YtcappkphcjgeoaaW.PrintLast Go.Proofs.YtcappkphcjgeoaaW.PrintMore
attribute [local go_sem] max2_int min2_int max_two min_two max_three min_three max_four min_four   -- for this text's walks alone
set_option linter.unusedVariables false
set_option linter.unusedSimpArgs false

/-! ### gimbalref05_Fma: function 29 -/
mutual
def gimbalref05_Fma.j0 : Nat → Int → Int → Int → Int → Bool → Bool → Option (Int × Int)
 | 0, _, _, _, _, _, _ => none
 | k + 1, x0, x1, x2, x8, x9, x10 => if x10 = true then (some (9221120237041090560, 16)) else (if x9 = true then (some (9221120237041090560, x8)) else ((gimbalref04_Neg.f x0).bind fun t710 => ((gimbalref04_Neg.f x1).bind fun t711 => ((gimbalref04_IsInf.f x0).bind fun t712 => (if t712 = true then (gimbalref05_Fma.j1 k x0 x1 x2 (t710 != t711) true) else ((gimbalref04_IsInf.f x1).bind fun t713 => (gimbalref05_Fma.j1 k x0 x1 x2 (t710 != t711) t713)))))))
def gimbalref05_Fma.j1 : Nat → Int → Int → Int → Bool → Bool → Option (Int × Int)
 | 0, _, _, _, _, _ => none
 | k + 1, x0, x1, x2, x11, x51 => if x51 = true then ((gimbalref04_Signed.f x11 9218868437227405312).bind fun t714 => ((gimbalref04_Add.f k t714 x2).bind fun bt715 => (some (bt715.1, bt715.2)))) else ((gimbalref04_IsInf.f x2).bind fun t717 => (if t717 = true then (some (x2, 0)) else ((gimbalref04_Whole.f k x0).bind fun t718 => ((gimbalref04_Whole.f k x1).bind fun t721 => ((gimbalref02_Mul.f k t718 t721).bind fun t724 => ((gimbalref04_Whole.f k x2).bind fun t727 => ((gimbalref02_Up.f k t727 1074).bind fun t730 => (if (t724.length : Int) = 0 then (gimbalref05_Fma.j2 k x2 x11 t724 t730 ((t730.length : Int) == 0)) else (gimbalref05_Fma.j2 k x2 x11 t724 t730 false)))))))))
def gimbalref05_Fma.j2 : Nat → Int → Bool → List Int → List Int → Bool → Option (Int × Int)
 | 0, _, _, _, _, _ => none
 | k + 1, x2, x11, x12, x13, x76 => if x76 = true then ((gimbalref04_Signed.f x11 0).bind fun t733 => ((gimbalref04_Add.f k t733 x2).bind fun bt734 => (some (bt734.1, bt734.2)))) else ((gimbalref02_Add.f k x12 x13).bind fun t736 => ((gimbalref04_Neg.f x2).bind fun t739 => (if (x11 != t739) = true then ((gimbalref02_Cmp.f k x12 x13).bind fun t740 => (if t740 < 0 then ((gimbalref02_Sub.f k x13 x12).bind fun t741 => (if (t741.length : Int) = 0 then (some (0, 0)) else ((gimbalref03_Round.f k (!x11) t741 (-2148) false).bind fun bt744 => (some (bt744.1, bt744.2))))) else ((gimbalref02_Sub.f k x12 x13).bind fun t747 => (if (t747.length : Int) = 0 then (some (0, 0)) else ((gimbalref03_Round.f k x11 t747 (-2148) false).bind fun bt750 => (some (bt750.1, bt750.2))))))) else ((gimbalref03_Round.f k x11 t736 (-2148) false).bind fun bt753 => (some (bt753.1, bt753.2))))))
end
def gimbalref05_Fma.f (k : Nat) (a0 : Int) (a1 : Int) (a2 : Int) : Option (Int × Int) := (gimbalref04_Nans.f k (([a0, a1, a2] : List Int))).bind fun bt702 => ((gimbalref04_IsInf.f a0).bind fun t704 => (if t704 = true then ((gimbalref04_IsZero.f a1).bind fun t705 => (if t705 = true then (gimbalref05_Fma.j0 k a0 a1 a2 bt702.1 bt702.2 true) else ((gimbalref04_IsZero.f a0).bind fun t706 => (if t706 = true then ((gimbalref04_IsInf.f a1).bind fun t707 => (gimbalref05_Fma.j0 k a0 a1 a2 bt702.1 bt702.2 t707)) else (gimbalref05_Fma.j0 k a0 a1 a2 bt702.1 bt702.2 false))))) else ((gimbalref04_IsZero.f a0).bind fun t708 => (if t708 = true then ((gimbalref04_IsInf.f a1).bind fun t709 => (gimbalref05_Fma.j0 k a0 a1 a2 bt702.1 bt702.2 t709)) else (gimbalref05_Fma.j0 k a0 a1 a2 bt702.1 bt702.2 false)))))
theorem gimbalref05_Fma.mono_l : ∀ k, (∀ y0 y1 y2 y3 y4 y5, LeO (gimbalref05_Fma.j0 k y0 y1 y2 y3 y4 y5) (gimbalref05_Fma.j0 (k + 1) y0 y1 y2 y3 y4 y5)) ∧ (∀ y0 y1 y2 y3 y4, LeO (gimbalref05_Fma.j1 k y0 y1 y2 y3 y4) (gimbalref05_Fma.j1 (k + 1) y0 y1 y2 y3 y4)) ∧ (∀ y0 y1 y2 y3 y4, LeO (gimbalref05_Fma.j2 k y0 y1 y2 y3 y4) (gimbalref05_Fma.j2 (k + 1) y0 y1 y2 y3 y4))
 | 0 => ⟨fun _ _ _ _ _ _ r h => by simp [gimbalref05_Fma.j0] at h, fun _ _ _ _ _ r h => by simp [gimbalref05_Fma.j1] at h, fun _ _ _ _ _ r h => by simp [gimbalref05_Fma.j2] at h⟩
 | k + 1 => by
  obtain ⟨ih0, ih1, ih2⟩ := gimbalref05_Fma.mono_l k
  refine ⟨?_, ?_, ?_⟩
  ·
   intro y0 y1 y2 y3 y4 y5
   unfold gimbalref05_Fma.j0
   repeat' first
   | (with_reducible exact ih0 _ _ _ _ _ _)
   | (with_reducible exact ih1 _ _ _ _ _)
   | (with_reducible exact ih2 _ _ _ _ _)
   | (with_reducible exact gimbalref02_Add.mono _ _ _)
   | (with_reducible exact gimbalref02_Cmp.mono _ _ _)
   | (with_reducible exact gimbalref02_Mul.mono _ _ _)
   | (with_reducible exact gimbalref02_Sub.mono _ _ _)
   | (with_reducible exact gimbalref02_Up.mono _ _ _)
   | (with_reducible exact gimbalref03_Round.mono _ _ _ _ _)
   | (with_reducible exact gimbalref04_Add.mono _ _ _)
   | (with_reducible exact gimbalref04_Nans.mono _ _)
   | (with_reducible exact gimbalref04_Whole.mono _ _)
   | (with_reducible exact LeO.refl _)
   | (with_reducible exact LeO.none _)
   | (with_reducible refine LeO.ite ?_ ?_)
   | (with_reducible refine LeO.bind ?_ (fun _ => ?_))
   | exact ih0 _ _ _ _ _ _
   | exact ih1 _ _ _ _ _
   | exact ih2 _ _ _ _ _
   | exact gimbalref02_Add.mono _ _ _
   | exact gimbalref02_Cmp.mono _ _ _
   | exact gimbalref02_Mul.mono _ _ _
   | exact gimbalref02_Sub.mono _ _ _
   | exact gimbalref02_Up.mono _ _ _
   | exact gimbalref03_Round.mono _ _ _ _ _
   | exact gimbalref04_Add.mono _ _ _
   | exact gimbalref04_Nans.mono _ _
   | exact gimbalref04_Whole.mono _ _
   | exact LeO.none _
   | refine LeO.ite ?_ ?_
   | refine LeO.bind ?_ (fun _ => ?_)
  ·
   intro y0 y1 y2 y3 y4
   unfold gimbalref05_Fma.j1
   repeat' first
   | (with_reducible exact ih0 _ _ _ _ _ _)
   | (with_reducible exact ih1 _ _ _ _ _)
   | (with_reducible exact ih2 _ _ _ _ _)
   | (with_reducible exact gimbalref02_Add.mono _ _ _)
   | (with_reducible exact gimbalref02_Cmp.mono _ _ _)
   | (with_reducible exact gimbalref02_Mul.mono _ _ _)
   | (with_reducible exact gimbalref02_Sub.mono _ _ _)
   | (with_reducible exact gimbalref02_Up.mono _ _ _)
   | (with_reducible exact gimbalref03_Round.mono _ _ _ _ _)
   | (with_reducible exact gimbalref04_Add.mono _ _ _)
   | (with_reducible exact gimbalref04_Nans.mono _ _)
   | (with_reducible exact gimbalref04_Whole.mono _ _)
   | (with_reducible exact LeO.refl _)
   | (with_reducible exact LeO.none _)
   | (with_reducible refine LeO.ite ?_ ?_)
   | (with_reducible refine LeO.bind ?_ (fun _ => ?_))
   | exact ih0 _ _ _ _ _ _
   | exact ih1 _ _ _ _ _
   | exact ih2 _ _ _ _ _
   | exact gimbalref02_Add.mono _ _ _
   | exact gimbalref02_Cmp.mono _ _ _
   | exact gimbalref02_Mul.mono _ _ _
   | exact gimbalref02_Sub.mono _ _ _
   | exact gimbalref02_Up.mono _ _ _
   | exact gimbalref03_Round.mono _ _ _ _ _
   | exact gimbalref04_Add.mono _ _ _
   | exact gimbalref04_Nans.mono _ _
   | exact gimbalref04_Whole.mono _ _
   | exact LeO.none _
   | refine LeO.ite ?_ ?_
   | refine LeO.bind ?_ (fun _ => ?_)
  ·
   intro y0 y1 y2 y3 y4
   unfold gimbalref05_Fma.j2
   repeat' first
   | (with_reducible exact ih0 _ _ _ _ _ _)
   | (with_reducible exact ih1 _ _ _ _ _)
   | (with_reducible exact ih2 _ _ _ _ _)
   | (with_reducible exact gimbalref02_Add.mono _ _ _)
   | (with_reducible exact gimbalref02_Cmp.mono _ _ _)
   | (with_reducible exact gimbalref02_Mul.mono _ _ _)
   | (with_reducible exact gimbalref02_Sub.mono _ _ _)
   | (with_reducible exact gimbalref02_Up.mono _ _ _)
   | (with_reducible exact gimbalref03_Round.mono _ _ _ _ _)
   | (with_reducible exact gimbalref04_Add.mono _ _ _)
   | (with_reducible exact gimbalref04_Nans.mono _ _)
   | (with_reducible exact gimbalref04_Whole.mono _ _)
   | (with_reducible exact LeO.refl _)
   | (with_reducible exact LeO.none _)
   | (with_reducible refine LeO.ite ?_ ?_)
   | (with_reducible refine LeO.bind ?_ (fun _ => ?_))
   | exact ih0 _ _ _ _ _ _
   | exact ih1 _ _ _ _ _
   | exact ih2 _ _ _ _ _
   | exact gimbalref02_Add.mono _ _ _
   | exact gimbalref02_Cmp.mono _ _ _
   | exact gimbalref02_Mul.mono _ _ _
   | exact gimbalref02_Sub.mono _ _ _
   | exact gimbalref02_Up.mono _ _ _
   | exact gimbalref03_Round.mono _ _ _ _ _
   | exact gimbalref04_Add.mono _ _ _
   | exact gimbalref04_Nans.mono _ _
   | exact gimbalref04_Whole.mono _ _
   | exact LeO.none _
   | refine LeO.ite ?_ ?_
   | refine LeO.bind ?_ (fun _ => ?_)
theorem gimbalref05_Fma.mono : ∀ a0 a1 a2 k, LeO (gimbalref05_Fma.f k a0 a1 a2) (gimbalref05_Fma.f (k + 1) a0 a1 a2) := by
 intro a0 a1 a2 k
 obtain ⟨ih0, ih1, ih2⟩ := gimbalref05_Fma.mono_l k
 unfold gimbalref05_Fma.f
 repeat' first
   | (with_reducible exact ih0 _ _ _ _ _ _)
   | (with_reducible exact ih1 _ _ _ _ _)
   | (with_reducible exact ih2 _ _ _ _ _)
   | (with_reducible exact gimbalref02_Add.mono _ _ _)
   | (with_reducible exact gimbalref02_Cmp.mono _ _ _)
   | (with_reducible exact gimbalref02_Mul.mono _ _ _)
   | (with_reducible exact gimbalref02_Sub.mono _ _ _)
   | (with_reducible exact gimbalref02_Up.mono _ _ _)
   | (with_reducible exact gimbalref03_Round.mono _ _ _ _ _)
   | (with_reducible exact gimbalref04_Add.mono _ _ _)
   | (with_reducible exact gimbalref04_Nans.mono _ _)
   | (with_reducible exact gimbalref04_Whole.mono _ _)
   | (with_reducible exact LeO.refl _)
   | (with_reducible exact LeO.none _)
   | (with_reducible refine LeO.ite ?_ ?_)
   | (with_reducible refine LeO.bind ?_ (fun _ => ?_))
   | exact ih0 _ _ _ _ _ _
   | exact ih1 _ _ _ _ _
   | exact ih2 _ _ _ _ _
   | exact gimbalref02_Add.mono _ _ _
   | exact gimbalref02_Cmp.mono _ _ _
   | exact gimbalref02_Mul.mono _ _ _
   | exact gimbalref02_Sub.mono _ _ _
   | exact gimbalref02_Up.mono _ _ _
   | exact gimbalref03_Round.mono _ _ _ _ _
   | exact gimbalref04_Add.mono _ _ _
   | exact gimbalref04_Nans.mono _ _
   | exact gimbalref04_Whole.mono _ _
   | exact LeO.none _
   | refine LeO.ite ?_ ?_
   | refine LeO.bind ?_ (fun _ => ?_)
set_option maxHeartbeats 8000000 in
set_option maxRecDepth 100000 in
theorem gimbalref05_Fma.calls (k : Nat) (a0 : Int) (a1 : Int) (a2 : Int) (r1 : Int) (r2 : Int) (w : World) (h : gimbalref05_Fma.f k a0 a1 a2 = some (r1, r2)) :
  Calls Try.prog 29 #[.int .u64 a0, .int .u64 a1, .int .u64 a2] w fun e w' => e = .returned (.tuple #[.int .u64 r1, .int .i64 r2]) ∧ Below w.heap.size w w' := by
 have hu66 := Try.underlying66
 have HB := Aside0.mk (Below.refl w.heap.size w)
 have H : ((gimbalref04_Nans.f k (([a0, a1, a2] : List Int))).bind fun bt702 => ((gimbalref04_IsInf.f a0).bind fun t704 => (if t704 = true then ((gimbalref04_IsZero.f a1).bind fun t705 => (if t705 = true then (gimbalref05_Fma.j0 k a0 a1 a2 bt702.1 bt702.2 true) else ((gimbalref04_IsZero.f a0).bind fun t706 => (if t706 = true then ((gimbalref04_IsInf.f a1).bind fun t707 => (gimbalref05_Fma.j0 k a0 a1 a2 bt702.1 bt702.2 t707)) else (gimbalref05_Fma.j0 k a0 a1 a2 bt702.1 bt702.2 false))))) else ((gimbalref04_IsZero.f a0).bind fun t708 => (if t708 = true then ((gimbalref04_IsInf.f a1).bind fun t709 => (gimbalref05_Fma.j0 k a0 a1 a2 bt702.1 bt702.2 t709)) else (gimbalref05_Fma.j0 k a0 a1 a2 bt702.1 bt702.2 false)))))) = some (r1, r2) := h
 clear h
 obtain ⟨y699, hy699⟩ : ∃ y_ : List Int, y_ = (([a0, a1, a2] : List Int)) := ⟨_, rfl⟩
 replace H : ((gimbalref04_Nans.f k y699).bind fun bt702 => ((gimbalref04_IsInf.f a0).bind fun t704 => (if t704 = true then ((gimbalref04_IsZero.f a1).bind fun t705 => (if t705 = true then (gimbalref05_Fma.j0 k a0 a1 a2 bt702.1 bt702.2 true) else ((gimbalref04_IsZero.f a0).bind fun t706 => (if t706 = true then ((gimbalref04_IsInf.f a1).bind fun t707 => (gimbalref05_Fma.j0 k a0 a1 a2 bt702.1 bt702.2 t707)) else (gimbalref05_Fma.j0 k a0 a1 a2 bt702.1 bt702.2 false))))) else ((gimbalref04_IsZero.f a0).bind fun t708 => (if t708 = true then ((gimbalref04_IsInf.f a1).bind fun t709 => (gimbalref05_Fma.j0 k a0 a1 a2 bt702.1 bt702.2 t709)) else (gimbalref05_Fma.j0 k a0 a1 a2 bt702.1 bt702.2 false)))))) = some (r1, r2) := by first | (rw [hy699]; with_reducible exact H) | (have H2_ := (Option.bind_some _ _).symm.trans H; rw [hy699]; with_reducible exact H2_) | (have H2_ := (Option.bind_some _ _).symm.trans H; with_reducible exact H2_) | with_reducible exact H | (rw [hy699]; exact H) | exact H
 have Ny699 := Aside0.mk hy699
 clear hy699
 obtain ⟨⟨t702, t703⟩, A40, H⟩ := Option.bind_eq_some_iff.mp H
 (try dsimp -simprocs only at H)
 have A4 := Aside0.mk A40
 clear A40
 have HC5 := Aside0.mk H
 clear H
 go_enter Try.func29, Try.ntmps29
 go_upto_region 2 with (first | ((with_reducible refine gate_dst (N := 20) rfl ?_); refine Kd.R_lit (Kd.int .u64) _ 22 ?hg (N := 20) ?hd (xs := ([a0, a1, a2] : List Int)) (inner := [.int .u64 a0, .int .u64 a1, .int .u64 a2]) (ok := fun _ => True) (okp := fun _ => True) ?hr ?hp (fun _ hk => hk) trivial (Below.refl _ _) (Nat.le_refl _) (by simp) ?_; (case hd => rfl); (case hg => rfl); (case hr => first | (go_simp; done) | (go_simp; rfl)); (case hp => exact (Reps.one (show Kd.M (Kd.int .u64) _ _ _ a0 [.int .u64 a0] from rfl) (Reps.one (show Kd.M (Kd.int .u64) _ _ _ a1 [.int .u64 a1] from rfl) (Reps.one (show Kd.M (Kd.int .u64) _ _ _ a2 [.int .u64 a2] from rfl) (Reps.none _ _))))); intro v700 w6 ho7 hb hg_ hnew_; clear hg_ hnew_; (first | rw [← Ny699.out] at ho7 | (simp only [Int.reduceToNat] at ho7; rw [← Ny699.out] at ho7)); have n0_ := Aside0.mk (Kd.R_lower ho7 (below_size bel)); have n1_ := Aside0.mk (below_step bel hb); clear HB; have HO701 := n0_; have HB := n1_; clear n0_ n1_; clear hb ho7; obtain ⟨Ao8, co8, eo8⟩ := Kd.R_slice HO701.out; subst eo8) | (go_at_call 42; (with_reducible refine (gimbalref04_Nans.calls k _ _ y699 t702 t703 _ ?side1 ?side2 A4.out).mono ?_); (case side1 => exact ks HO701); (case side2 => exact (Kd.R_reads' HO701.out).2.1); rintro e w' ⟨rfl, ⟨nd, rfl⟩⟩; (try first | exact ⟨rfl, _, World.drewN_drewN _ _ _⟩ | exact ⟨rfl, _, Eq.trans (World.drewN_drewN _ _ _) (congrArg (World.drewN _) (Nat.add_assoc _ _ _))⟩)))
 repeat (go_quiet (first | ((with_reducible refine gate_dst (N := 20) rfl ?_); refine Kd.R_lit (Kd.int .u64) _ 22 ?hg (N := 20) ?hd (xs := ([a0, a1, a2] : List Int)) (inner := [.int .u64 a0, .int .u64 a1, .int .u64 a2]) (ok := fun _ => True) (okp := fun _ => True) ?hr ?hp (fun _ hk => hk) trivial (Below.refl _ _) (Nat.le_refl _) (by simp) ?_; (case hd => rfl); (case hg => rfl); (case hr => first | (go_simp; done) | (go_simp; rfl)); (case hp => exact (Reps.one (show Kd.M (Kd.int .u64) _ _ _ a0 [.int .u64 a0] from rfl) (Reps.one (show Kd.M (Kd.int .u64) _ _ _ a1 [.int .u64 a1] from rfl) (Reps.one (show Kd.M (Kd.int .u64) _ _ _ a2 [.int .u64 a2] from rfl) (Reps.none _ _))))); intro v700 w6 ho7 hb hg_ hnew_; clear hg_ hnew_; (first | rw [← Ny699.out] at ho7 | (simp only [Int.reduceToNat] at ho7; rw [← Ny699.out] at ho7)); have n0_ := Aside0.mk (Kd.R_lower ho7 (below_size bel)); have n1_ := Aside0.mk (below_step bel hb); clear HB; have HO701 := n0_; have HB := n1_; clear n0_ n1_; clear hb ho7; obtain ⟨Ao8, co8, eo8⟩ := Kd.R_slice HO701.out; subst eo8) | (go_at_call 42; (with_reducible refine (gimbalref04_Nans.calls k _ _ y699 t702 t703 _ ?side1 ?side2 A4.out).mono ?_); (case side1 => exact ks HO701); (case side2 => exact (Kd.R_reads' HO701.out).2.1); rintro e w' ⟨rfl, ⟨nd, rfl⟩⟩; (try first | exact ⟨rfl, _, World.drewN_drewN _ _ _⟩ | exact ⟨rfl, _, Eq.trans (World.drewN_drewN _ _ _) (congrArg (World.drewN _) (Nat.add_assoc _ _ _))⟩))); go_upto_region 2 with (first | ((with_reducible refine gate_dst (N := 20) rfl ?_); refine Kd.R_lit (Kd.int .u64) _ 22 ?hg (N := 20) ?hd (xs := ([a0, a1, a2] : List Int)) (inner := [.int .u64 a0, .int .u64 a1, .int .u64 a2]) (ok := fun _ => True) (okp := fun _ => True) ?hr ?hp (fun _ hk => hk) trivial (Below.refl _ _) (Nat.le_refl _) (by simp) ?_; (case hd => rfl); (case hg => rfl); (case hr => first | (go_simp; done) | (go_simp; rfl)); (case hp => exact (Reps.one (show Kd.M (Kd.int .u64) _ _ _ a0 [.int .u64 a0] from rfl) (Reps.one (show Kd.M (Kd.int .u64) _ _ _ a1 [.int .u64 a1] from rfl) (Reps.one (show Kd.M (Kd.int .u64) _ _ _ a2 [.int .u64 a2] from rfl) (Reps.none _ _))))); intro v700 w6 ho7 hb hg_ hnew_; clear hg_ hnew_; (first | rw [← Ny699.out] at ho7 | (simp only [Int.reduceToNat] at ho7; rw [← Ny699.out] at ho7)); have n0_ := Aside0.mk (Kd.R_lower ho7 (below_size bel)); have n1_ := Aside0.mk (below_step bel hb); clear HB; have HO701 := n0_; have HB := n1_; clear n0_ n1_; clear hb ho7; obtain ⟨Ao8, co8, eo8⟩ := Kd.R_slice HO701.out; subst eo8) | (go_at_call 42; (with_reducible refine (gimbalref04_Nans.calls k _ _ y699 t702 t703 _ ?side1 ?side2 A4.out).mono ?_); (case side1 => exact ks HO701); (case side2 => exact (Kd.R_reads' HO701.out).2.1); rintro e w' ⟨rfl, ⟨nd, rfl⟩⟩; (try first | exact ⟨rfl, _, World.drewN_drewN _ _ _⟩ | exact ⟨rfl, _, Eq.trans (World.drewN_drewN _ _ _) (congrArg (World.drewN _) (Nat.add_assoc _ _ _))⟩))))
 (try simp only [Act.put, List.setIfInBounds_toArray, List.set_cons_zero, List.set_cons_succ])
 go_cut [10] (fun v10 wc => ∃ (kq : Nat) (x10_4 : Bool), v10 = .bool x10_4 ∧ Aside0 (gimbalref05_Fma.j0 kq a0 a1 a2 t702 t703 x10_4 = some (r1, r2)) ∧ Aside0 (kq ≤ k) ∧ Aside0 (Below w.heap.size w wc))
 case first =>
  have H := HC5.out
  clear HC5
  obtain ⟨t704, A90, H⟩ := Option.bind_eq_some_iff.mp H
  (try dsimp -simprocs only at H)
  have A9 := Aside0.mk A90
  clear A90
  by_cases c10 : t704 = true
  ·
   subst c10
   rw [if_pos rfl] at H
   obtain ⟨t705, A110, H⟩ := Option.bind_eq_some_iff.mp H
   (try dsimp -simprocs only at H)
   have A11 := Aside0.mk A110
   clear A110
   by_cases c12 : t705 = true
   ·
    subst c12
    rw [if_pos rfl] at H
    have H' := Aside0.mk H
    clear H
    go_wp2_with (first | (go_at_call 49; (with_reducible refine (gimbalref04_IsInf.calls a0 true _ A9.out).mono ?_); rintro e w' ⟨rfl, ⟨nd, rfl⟩⟩; (try first | exact ⟨rfl, _, World.drewN_drewN _ _ _⟩ | exact ⟨rfl, _, Eq.trans (World.drewN_drewN _ _ _) (congrArg (World.drewN _) (Nat.add_assoc _ _ _))⟩)) | (go_at_call 43; (with_reducible refine (gimbalref04_IsZero.calls a1 true _ A11.out).mono ?_); rintro e w' ⟨rfl, ⟨nd, rfl⟩⟩; (try first | exact ⟨rfl, _, World.drewN_drewN _ _ _⟩ | exact ⟨rfl, _, Eq.trans (World.drewN_drewN _ _ _) (congrArg (World.drewN _) (Nat.add_assoc _ _ _))⟩)))
    repeat (go_quiet (first | (go_at_call 49; (with_reducible refine (gimbalref04_IsInf.calls a0 true _ A9.out).mono ?_); rintro e w' ⟨rfl, ⟨nd, rfl⟩⟩; (try first | exact ⟨rfl, _, World.drewN_drewN _ _ _⟩ | exact ⟨rfl, _, Eq.trans (World.drewN_drewN _ _ _) (congrArg (World.drewN _) (Nat.add_assoc _ _ _))⟩)) | (go_at_call 43; (with_reducible refine (gimbalref04_IsZero.calls a1 true _ A11.out).mono ?_); rintro e w' ⟨rfl, ⟨nd, rfl⟩⟩; (try first | exact ⟨rfl, _, World.drewN_drewN _ _ _⟩ | exact ⟨rfl, _, Eq.trans (World.drewN_drewN _ _ _) (congrArg (World.drewN _) (Nat.add_assoc _ _ _))⟩))); try go_wp2_with (first | (go_at_call 49; (with_reducible refine (gimbalref04_IsInf.calls a0 true _ A9.out).mono ?_); rintro e w' ⟨rfl, ⟨nd, rfl⟩⟩; (try first | exact ⟨rfl, _, World.drewN_drewN _ _ _⟩ | exact ⟨rfl, _, Eq.trans (World.drewN_drewN _ _ _) (congrArg (World.drewN _) (Nat.add_assoc _ _ _))⟩)) | (go_at_call 43; (with_reducible refine (gimbalref04_IsZero.calls a1 true _ A11.out).mono ?_); rintro e w' ⟨rfl, ⟨nd, rfl⟩⟩; (try first | exact ⟨rfl, _, World.drewN_drewN _ _ _⟩ | exact ⟨rfl, _, Eq.trans (World.drewN_drewN _ _ _) (congrArg (World.drewN _) (Nat.add_assoc _ _ _))⟩))))
    go_meet
    case rel => exact ⟨_, (true), (by first | rfl | (simp; done) | (simp [*]; done)), H', ⟨by first | omega | exact Nat.le_refl _⟩, ⟨bel⟩⟩
   ·
    replace c12 := Bool.eq_false_iff.mpr c12
    subst c12
    rw [if_neg (show ¬ (false = true) by decide)] at H
    obtain ⟨t706, A130, H⟩ := Option.bind_eq_some_iff.mp H
    (try dsimp -simprocs only at H)
    have A13 := Aside0.mk A130
    clear A130
    by_cases c14 : t706 = true
    ·
     subst c14
     rw [if_pos rfl] at H
     obtain ⟨t707, A150, H⟩ := Option.bind_eq_some_iff.mp H
     (try dsimp -simprocs only at H)
     have A15 := Aside0.mk A150
     clear A150
     have H' := Aside0.mk H
     clear H
     go_wp2_with (first | (go_at_call 49; (with_reducible refine (gimbalref04_IsInf.calls a0 true _ A9.out).mono ?_); rintro e w' ⟨rfl, ⟨nd, rfl⟩⟩; (try first | exact ⟨rfl, _, World.drewN_drewN _ _ _⟩ | exact ⟨rfl, _, Eq.trans (World.drewN_drewN _ _ _) (congrArg (World.drewN _) (Nat.add_assoc _ _ _))⟩)) | (go_at_call 43; (with_reducible refine (gimbalref04_IsZero.calls a1 false _ A11.out).mono ?_); rintro e w' ⟨rfl, ⟨nd, rfl⟩⟩; (try first | exact ⟨rfl, _, World.drewN_drewN _ _ _⟩ | exact ⟨rfl, _, Eq.trans (World.drewN_drewN _ _ _) (congrArg (World.drewN _) (Nat.add_assoc _ _ _))⟩)) | (go_at_call 43; (with_reducible refine (gimbalref04_IsZero.calls a0 true _ A13.out).mono ?_); rintro e w' ⟨rfl, ⟨nd, rfl⟩⟩; (try first | exact ⟨rfl, _, World.drewN_drewN _ _ _⟩ | exact ⟨rfl, _, Eq.trans (World.drewN_drewN _ _ _) (congrArg (World.drewN _) (Nat.add_assoc _ _ _))⟩)) | (go_at_call 49; (with_reducible refine (gimbalref04_IsInf.calls a1 t707 _ A15.out).mono ?_); rintro e w' ⟨rfl, ⟨nd, rfl⟩⟩; (try first | exact ⟨rfl, _, World.drewN_drewN _ _ _⟩ | exact ⟨rfl, _, Eq.trans (World.drewN_drewN _ _ _) (congrArg (World.drewN _) (Nat.add_assoc _ _ _))⟩)))
     repeat (go_quiet (first | (go_at_call 49; (with_reducible refine (gimbalref04_IsInf.calls a0 true _ A9.out).mono ?_); rintro e w' ⟨rfl, ⟨nd, rfl⟩⟩; (try first | exact ⟨rfl, _, World.drewN_drewN _ _ _⟩ | exact ⟨rfl, _, Eq.trans (World.drewN_drewN _ _ _) (congrArg (World.drewN _) (Nat.add_assoc _ _ _))⟩)) | (go_at_call 43; (with_reducible refine (gimbalref04_IsZero.calls a1 false _ A11.out).mono ?_); rintro e w' ⟨rfl, ⟨nd, rfl⟩⟩; (try first | exact ⟨rfl, _, World.drewN_drewN _ _ _⟩ | exact ⟨rfl, _, Eq.trans (World.drewN_drewN _ _ _) (congrArg (World.drewN _) (Nat.add_assoc _ _ _))⟩)) | (go_at_call 43; (with_reducible refine (gimbalref04_IsZero.calls a0 true _ A13.out).mono ?_); rintro e w' ⟨rfl, ⟨nd, rfl⟩⟩; (try first | exact ⟨rfl, _, World.drewN_drewN _ _ _⟩ | exact ⟨rfl, _, Eq.trans (World.drewN_drewN _ _ _) (congrArg (World.drewN _) (Nat.add_assoc _ _ _))⟩)) | (go_at_call 49; (with_reducible refine (gimbalref04_IsInf.calls a1 t707 _ A15.out).mono ?_); rintro e w' ⟨rfl, ⟨nd, rfl⟩⟩; (try first | exact ⟨rfl, _, World.drewN_drewN _ _ _⟩ | exact ⟨rfl, _, Eq.trans (World.drewN_drewN _ _ _) (congrArg (World.drewN _) (Nat.add_assoc _ _ _))⟩))); try go_wp2_with (first | (go_at_call 49; (with_reducible refine (gimbalref04_IsInf.calls a0 true _ A9.out).mono ?_); rintro e w' ⟨rfl, ⟨nd, rfl⟩⟩; (try first | exact ⟨rfl, _, World.drewN_drewN _ _ _⟩ | exact ⟨rfl, _, Eq.trans (World.drewN_drewN _ _ _) (congrArg (World.drewN _) (Nat.add_assoc _ _ _))⟩)) | (go_at_call 43; (with_reducible refine (gimbalref04_IsZero.calls a1 false _ A11.out).mono ?_); rintro e w' ⟨rfl, ⟨nd, rfl⟩⟩; (try first | exact ⟨rfl, _, World.drewN_drewN _ _ _⟩ | exact ⟨rfl, _, Eq.trans (World.drewN_drewN _ _ _) (congrArg (World.drewN _) (Nat.add_assoc _ _ _))⟩)) | (go_at_call 43; (with_reducible refine (gimbalref04_IsZero.calls a0 true _ A13.out).mono ?_); rintro e w' ⟨rfl, ⟨nd, rfl⟩⟩; (try first | exact ⟨rfl, _, World.drewN_drewN _ _ _⟩ | exact ⟨rfl, _, Eq.trans (World.drewN_drewN _ _ _) (congrArg (World.drewN _) (Nat.add_assoc _ _ _))⟩)) | (go_at_call 49; (with_reducible refine (gimbalref04_IsInf.calls a1 t707 _ A15.out).mono ?_); rintro e w' ⟨rfl, ⟨nd, rfl⟩⟩; (try first | exact ⟨rfl, _, World.drewN_drewN _ _ _⟩ | exact ⟨rfl, _, Eq.trans (World.drewN_drewN _ _ _) (congrArg (World.drewN _) (Nat.add_assoc _ _ _))⟩))))
     go_meet
     case rel => exact ⟨_, (t707), (by first | rfl | (simp; done) | (simp [*]; done)), H', ⟨by first | omega | exact Nat.le_refl _⟩, ⟨bel⟩⟩
    ·
     replace c14 := Bool.eq_false_iff.mpr c14
     subst c14
     rw [if_neg (show ¬ (false = true) by decide)] at H
     have H' := Aside0.mk H
     clear H
     go_wp2_with (first | (go_at_call 49; (with_reducible refine (gimbalref04_IsInf.calls a0 true _ A9.out).mono ?_); rintro e w' ⟨rfl, ⟨nd, rfl⟩⟩; (try first | exact ⟨rfl, _, World.drewN_drewN _ _ _⟩ | exact ⟨rfl, _, Eq.trans (World.drewN_drewN _ _ _) (congrArg (World.drewN _) (Nat.add_assoc _ _ _))⟩)) | (go_at_call 43; (with_reducible refine (gimbalref04_IsZero.calls a1 false _ A11.out).mono ?_); rintro e w' ⟨rfl, ⟨nd, rfl⟩⟩; (try first | exact ⟨rfl, _, World.drewN_drewN _ _ _⟩ | exact ⟨rfl, _, Eq.trans (World.drewN_drewN _ _ _) (congrArg (World.drewN _) (Nat.add_assoc _ _ _))⟩)) | (go_at_call 43; (with_reducible refine (gimbalref04_IsZero.calls a0 false _ A13.out).mono ?_); rintro e w' ⟨rfl, ⟨nd, rfl⟩⟩; (try first | exact ⟨rfl, _, World.drewN_drewN _ _ _⟩ | exact ⟨rfl, _, Eq.trans (World.drewN_drewN _ _ _) (congrArg (World.drewN _) (Nat.add_assoc _ _ _))⟩)))
     repeat (go_quiet (first | (go_at_call 49; (with_reducible refine (gimbalref04_IsInf.calls a0 true _ A9.out).mono ?_); rintro e w' ⟨rfl, ⟨nd, rfl⟩⟩; (try first | exact ⟨rfl, _, World.drewN_drewN _ _ _⟩ | exact ⟨rfl, _, Eq.trans (World.drewN_drewN _ _ _) (congrArg (World.drewN _) (Nat.add_assoc _ _ _))⟩)) | (go_at_call 43; (with_reducible refine (gimbalref04_IsZero.calls a1 false _ A11.out).mono ?_); rintro e w' ⟨rfl, ⟨nd, rfl⟩⟩; (try first | exact ⟨rfl, _, World.drewN_drewN _ _ _⟩ | exact ⟨rfl, _, Eq.trans (World.drewN_drewN _ _ _) (congrArg (World.drewN _) (Nat.add_assoc _ _ _))⟩)) | (go_at_call 43; (with_reducible refine (gimbalref04_IsZero.calls a0 false _ A13.out).mono ?_); rintro e w' ⟨rfl, ⟨nd, rfl⟩⟩; (try first | exact ⟨rfl, _, World.drewN_drewN _ _ _⟩ | exact ⟨rfl, _, Eq.trans (World.drewN_drewN _ _ _) (congrArg (World.drewN _) (Nat.add_assoc _ _ _))⟩))); try go_wp2_with (first | (go_at_call 49; (with_reducible refine (gimbalref04_IsInf.calls a0 true _ A9.out).mono ?_); rintro e w' ⟨rfl, ⟨nd, rfl⟩⟩; (try first | exact ⟨rfl, _, World.drewN_drewN _ _ _⟩ | exact ⟨rfl, _, Eq.trans (World.drewN_drewN _ _ _) (congrArg (World.drewN _) (Nat.add_assoc _ _ _))⟩)) | (go_at_call 43; (with_reducible refine (gimbalref04_IsZero.calls a1 false _ A11.out).mono ?_); rintro e w' ⟨rfl, ⟨nd, rfl⟩⟩; (try first | exact ⟨rfl, _, World.drewN_drewN _ _ _⟩ | exact ⟨rfl, _, Eq.trans (World.drewN_drewN _ _ _) (congrArg (World.drewN _) (Nat.add_assoc _ _ _))⟩)) | (go_at_call 43; (with_reducible refine (gimbalref04_IsZero.calls a0 false _ A13.out).mono ?_); rintro e w' ⟨rfl, ⟨nd, rfl⟩⟩; (try first | exact ⟨rfl, _, World.drewN_drewN _ _ _⟩ | exact ⟨rfl, _, Eq.trans (World.drewN_drewN _ _ _) (congrArg (World.drewN _) (Nat.add_assoc _ _ _))⟩))))
     go_meet
     case rel => exact ⟨_, (false), (by first | rfl | (simp; done) | (simp [*]; done)), H', ⟨by first | omega | exact Nat.le_refl _⟩, ⟨bel⟩⟩
  ·
   replace c10 := Bool.eq_false_iff.mpr c10
   subst c10
   rw [if_neg (show ¬ (false = true) by decide)] at H
   obtain ⟨t708, A160, H⟩ := Option.bind_eq_some_iff.mp H
   (try dsimp -simprocs only at H)
   have A16 := Aside0.mk A160
   clear A160
   by_cases c17 : t708 = true
   ·
    subst c17
    rw [if_pos rfl] at H
    obtain ⟨t709, A180, H⟩ := Option.bind_eq_some_iff.mp H
    (try dsimp -simprocs only at H)
    have A18 := Aside0.mk A180
    clear A180
    have H' := Aside0.mk H
    clear H
    go_wp2_with (first | (go_at_call 49; (with_reducible refine (gimbalref04_IsInf.calls a0 false _ A9.out).mono ?_); rintro e w' ⟨rfl, ⟨nd, rfl⟩⟩; (try first | exact ⟨rfl, _, World.drewN_drewN _ _ _⟩ | exact ⟨rfl, _, Eq.trans (World.drewN_drewN _ _ _) (congrArg (World.drewN _) (Nat.add_assoc _ _ _))⟩)) | (go_at_call 43; (with_reducible refine (gimbalref04_IsZero.calls a0 true _ A16.out).mono ?_); rintro e w' ⟨rfl, ⟨nd, rfl⟩⟩; (try first | exact ⟨rfl, _, World.drewN_drewN _ _ _⟩ | exact ⟨rfl, _, Eq.trans (World.drewN_drewN _ _ _) (congrArg (World.drewN _) (Nat.add_assoc _ _ _))⟩)) | (go_at_call 49; (with_reducible refine (gimbalref04_IsInf.calls a1 t709 _ A18.out).mono ?_); rintro e w' ⟨rfl, ⟨nd, rfl⟩⟩; (try first | exact ⟨rfl, _, World.drewN_drewN _ _ _⟩ | exact ⟨rfl, _, Eq.trans (World.drewN_drewN _ _ _) (congrArg (World.drewN _) (Nat.add_assoc _ _ _))⟩)))
    repeat (go_quiet (first | (go_at_call 49; (with_reducible refine (gimbalref04_IsInf.calls a0 false _ A9.out).mono ?_); rintro e w' ⟨rfl, ⟨nd, rfl⟩⟩; (try first | exact ⟨rfl, _, World.drewN_drewN _ _ _⟩ | exact ⟨rfl, _, Eq.trans (World.drewN_drewN _ _ _) (congrArg (World.drewN _) (Nat.add_assoc _ _ _))⟩)) | (go_at_call 43; (with_reducible refine (gimbalref04_IsZero.calls a0 true _ A16.out).mono ?_); rintro e w' ⟨rfl, ⟨nd, rfl⟩⟩; (try first | exact ⟨rfl, _, World.drewN_drewN _ _ _⟩ | exact ⟨rfl, _, Eq.trans (World.drewN_drewN _ _ _) (congrArg (World.drewN _) (Nat.add_assoc _ _ _))⟩)) | (go_at_call 49; (with_reducible refine (gimbalref04_IsInf.calls a1 t709 _ A18.out).mono ?_); rintro e w' ⟨rfl, ⟨nd, rfl⟩⟩; (try first | exact ⟨rfl, _, World.drewN_drewN _ _ _⟩ | exact ⟨rfl, _, Eq.trans (World.drewN_drewN _ _ _) (congrArg (World.drewN _) (Nat.add_assoc _ _ _))⟩))); try go_wp2_with (first | (go_at_call 49; (with_reducible refine (gimbalref04_IsInf.calls a0 false _ A9.out).mono ?_); rintro e w' ⟨rfl, ⟨nd, rfl⟩⟩; (try first | exact ⟨rfl, _, World.drewN_drewN _ _ _⟩ | exact ⟨rfl, _, Eq.trans (World.drewN_drewN _ _ _) (congrArg (World.drewN _) (Nat.add_assoc _ _ _))⟩)) | (go_at_call 43; (with_reducible refine (gimbalref04_IsZero.calls a0 true _ A16.out).mono ?_); rintro e w' ⟨rfl, ⟨nd, rfl⟩⟩; (try first | exact ⟨rfl, _, World.drewN_drewN _ _ _⟩ | exact ⟨rfl, _, Eq.trans (World.drewN_drewN _ _ _) (congrArg (World.drewN _) (Nat.add_assoc _ _ _))⟩)) | (go_at_call 49; (with_reducible refine (gimbalref04_IsInf.calls a1 t709 _ A18.out).mono ?_); rintro e w' ⟨rfl, ⟨nd, rfl⟩⟩; (try first | exact ⟨rfl, _, World.drewN_drewN _ _ _⟩ | exact ⟨rfl, _, Eq.trans (World.drewN_drewN _ _ _) (congrArg (World.drewN _) (Nat.add_assoc _ _ _))⟩))))
    go_meet
    case rel => exact ⟨_, (t709), (by first | rfl | (simp; done) | (simp [*]; done)), H', ⟨by first | omega | exact Nat.le_refl _⟩, ⟨bel⟩⟩
   ·
    replace c17 := Bool.eq_false_iff.mpr c17
    subst c17
    rw [if_neg (show ¬ (false = true) by decide)] at H
    have H' := Aside0.mk H
    clear H
    go_wp2_with (first | (go_at_call 49; (with_reducible refine (gimbalref04_IsInf.calls a0 false _ A9.out).mono ?_); rintro e w' ⟨rfl, ⟨nd, rfl⟩⟩; (try first | exact ⟨rfl, _, World.drewN_drewN _ _ _⟩ | exact ⟨rfl, _, Eq.trans (World.drewN_drewN _ _ _) (congrArg (World.drewN _) (Nat.add_assoc _ _ _))⟩)) | (go_at_call 43; (with_reducible refine (gimbalref04_IsZero.calls a0 false _ A16.out).mono ?_); rintro e w' ⟨rfl, ⟨nd, rfl⟩⟩; (try first | exact ⟨rfl, _, World.drewN_drewN _ _ _⟩ | exact ⟨rfl, _, Eq.trans (World.drewN_drewN _ _ _) (congrArg (World.drewN _) (Nat.add_assoc _ _ _))⟩)))
    repeat (go_quiet (first | (go_at_call 49; (with_reducible refine (gimbalref04_IsInf.calls a0 false _ A9.out).mono ?_); rintro e w' ⟨rfl, ⟨nd, rfl⟩⟩; (try first | exact ⟨rfl, _, World.drewN_drewN _ _ _⟩ | exact ⟨rfl, _, Eq.trans (World.drewN_drewN _ _ _) (congrArg (World.drewN _) (Nat.add_assoc _ _ _))⟩)) | (go_at_call 43; (with_reducible refine (gimbalref04_IsZero.calls a0 false _ A16.out).mono ?_); rintro e w' ⟨rfl, ⟨nd, rfl⟩⟩; (try first | exact ⟨rfl, _, World.drewN_drewN _ _ _⟩ | exact ⟨rfl, _, Eq.trans (World.drewN_drewN _ _ _) (congrArg (World.drewN _) (Nat.add_assoc _ _ _))⟩))); try go_wp2_with (first | (go_at_call 49; (with_reducible refine (gimbalref04_IsInf.calls a0 false _ A9.out).mono ?_); rintro e w' ⟨rfl, ⟨nd, rfl⟩⟩; (try first | exact ⟨rfl, _, World.drewN_drewN _ _ _⟩ | exact ⟨rfl, _, Eq.trans (World.drewN_drewN _ _ _) (congrArg (World.drewN _) (Nat.add_assoc _ _ _))⟩)) | (go_at_call 43; (with_reducible refine (gimbalref04_IsZero.calls a0 false _ A16.out).mono ?_); rintro e w' ⟨rfl, ⟨nd, rfl⟩⟩; (try first | exact ⟨rfl, _, World.drewN_drewN _ _ _⟩ | exact ⟨rfl, _, Eq.trans (World.drewN_drewN _ _ _) (congrArg (World.drewN _) (Nat.add_assoc _ _ _))⟩))))
    go_meet
    case rel => exact ⟨_, (false), (by first | rfl | (simp; done) | (simp [*]; done)), H', ⟨by first | omega | exact Nat.le_refl _⟩, ⟨bel⟩⟩
 case rest =>
  clear HC5
  try clear c1
  try clear c2
  try clear p2
  try clear c10
  try clear c12
  try clear c14
  try clear c17
  obtain ⟨kq, x10_4, rfl, HA, HJ4, HB⟩ := hcut
  cases kq with
  | zero => exact absurd HA.out (by simp [gimbalref05_Fma.j0])
  | succ kj4 =>
   have H := HA.out
   clear HA
   simp only [gimbalref05_Fma.j0] at H
   by_cases c19 : x10_4 = true
   ·
    subst c19
    rw [if_pos rfl] at H
    simp only [Option.some.injEq, Prod.mk.injEq] at H
    obtain ⟨rfl, rfl⟩ := H
    go_wp2
    repeat (go_quiet (fail); try go_wp2)
    go_ret2
    exact ⟨er, bel⟩
   ·
    replace c19 := Bool.eq_false_iff.mpr c19
    subst c19
    rw [if_neg (show ¬ (false = true) by decide)] at H
    by_cases c20 : t703 = true
    ·
     subst c20
     rw [if_pos rfl] at H
     simp only [Option.some.injEq, Prod.mk.injEq] at H
     obtain ⟨rfl, rfl⟩ := H
     go_wp2
     repeat (go_quiet (fail); try go_wp2)
     go_ret2
     exact ⟨er, bel⟩
    ·
     replace c20 := Bool.eq_false_iff.mpr c20
     subst c20
     rw [if_neg (show ¬ (false = true) by decide)] at H
     obtain ⟨t710, A210, H⟩ := Option.bind_eq_some_iff.mp H
     (try dsimp -simprocs only at H)
     have A21 := Aside0.mk A210
     clear A210
     obtain ⟨t711, A220, H⟩ := Option.bind_eq_some_iff.mp H
     (try dsimp -simprocs only at H)
     have A22 := Aside0.mk A220
     clear A220
     have HC23 := Aside0.mk H
     clear H
     go_upto_region 8 with (first | (go_at_call 44; (with_reducible refine (gimbalref04_Neg.calls a0 t710 _ A21.out).mono ?_); rintro e w' ⟨rfl, ⟨nd, rfl⟩⟩; (try first | exact ⟨rfl, _, World.drewN_drewN _ _ _⟩ | exact ⟨rfl, _, Eq.trans (World.drewN_drewN _ _ _) (congrArg (World.drewN _) (Nat.add_assoc _ _ _))⟩)) | (go_at_call 44; (with_reducible refine (gimbalref04_Neg.calls a1 t711 _ A22.out).mono ?_); rintro e w' ⟨rfl, ⟨nd, rfl⟩⟩; (try first | exact ⟨rfl, _, World.drewN_drewN _ _ _⟩ | exact ⟨rfl, _, Eq.trans (World.drewN_drewN _ _ _) (congrArg (World.drewN _) (Nat.add_assoc _ _ _))⟩)))
     repeat (go_quiet (first | (go_at_call 44; (with_reducible refine (gimbalref04_Neg.calls a0 t710 _ A21.out).mono ?_); rintro e w' ⟨rfl, ⟨nd, rfl⟩⟩; (try first | exact ⟨rfl, _, World.drewN_drewN _ _ _⟩ | exact ⟨rfl, _, Eq.trans (World.drewN_drewN _ _ _) (congrArg (World.drewN _) (Nat.add_assoc _ _ _))⟩)) | (go_at_call 44; (with_reducible refine (gimbalref04_Neg.calls a1 t711 _ A22.out).mono ?_); rintro e w' ⟨rfl, ⟨nd, rfl⟩⟩; (try first | exact ⟨rfl, _, World.drewN_drewN _ _ _⟩ | exact ⟨rfl, _, Eq.trans (World.drewN_drewN _ _ _) (congrArg (World.drewN _) (Nat.add_assoc _ _ _))⟩))); go_upto_region 8 with (first | (go_at_call 44; (with_reducible refine (gimbalref04_Neg.calls a0 t710 _ A21.out).mono ?_); rintro e w' ⟨rfl, ⟨nd, rfl⟩⟩; (try first | exact ⟨rfl, _, World.drewN_drewN _ _ _⟩ | exact ⟨rfl, _, Eq.trans (World.drewN_drewN _ _ _) (congrArg (World.drewN _) (Nat.add_assoc _ _ _))⟩)) | (go_at_call 44; (with_reducible refine (gimbalref04_Neg.calls a1 t711 _ A22.out).mono ?_); rintro e w' ⟨rfl, ⟨nd, rfl⟩⟩; (try first | exact ⟨rfl, _, World.drewN_drewN _ _ _⟩ | exact ⟨rfl, _, Eq.trans (World.drewN_drewN _ _ _) (congrArg (World.drewN _) (Nat.add_assoc _ _ _))⟩))))
     (try simp only [Act.put, List.setIfInBounds_toArray, List.set_cons_zero, List.set_cons_succ])
     go_cut [11, 51] (fun v11 v51 wc => ∃ (kq : Nat) (x11_22 : Bool) (x51_22 : Bool), v11 = .bool x11_22 ∧ v51 = .bool x51_22 ∧ Aside0 (gimbalref05_Fma.j1 kq a0 a1 a2 x11_22 x51_22 = some (r1, r2)) ∧ Aside0 (kq ≤ kj4) ∧ Aside0 (Below w.heap.size w wc))
     case first =>
      have H := HC23.out
      clear HC23
      obtain ⟨t712, A240, H⟩ := Option.bind_eq_some_iff.mp H
      (try dsimp -simprocs only at H)
      have A24 := Aside0.mk A240
      clear A240
      by_cases c25 : t712 = true
      ·
       subst c25
       rw [if_pos rfl] at H
       have H' := Aside0.mk H
       clear H
       go_wp2_with (first | (go_at_call 49; (with_reducible refine (gimbalref04_IsInf.calls a0 true _ A24.out).mono ?_); rintro e w' ⟨rfl, ⟨nd, rfl⟩⟩; (try first | exact ⟨rfl, _, World.drewN_drewN _ _ _⟩ | exact ⟨rfl, _, Eq.trans (World.drewN_drewN _ _ _) (congrArg (World.drewN _) (Nat.add_assoc _ _ _))⟩)))
       repeat (go_quiet (first | (go_at_call 49; (with_reducible refine (gimbalref04_IsInf.calls a0 true _ A24.out).mono ?_); rintro e w' ⟨rfl, ⟨nd, rfl⟩⟩; (try first | exact ⟨rfl, _, World.drewN_drewN _ _ _⟩ | exact ⟨rfl, _, Eq.trans (World.drewN_drewN _ _ _) (congrArg (World.drewN _) (Nat.add_assoc _ _ _))⟩))); try go_wp2_with (first | (go_at_call 49; (with_reducible refine (gimbalref04_IsInf.calls a0 true _ A24.out).mono ?_); rintro e w' ⟨rfl, ⟨nd, rfl⟩⟩; (try first | exact ⟨rfl, _, World.drewN_drewN _ _ _⟩ | exact ⟨rfl, _, Eq.trans (World.drewN_drewN _ _ _) (congrArg (World.drewN _) (Nat.add_assoc _ _ _))⟩))))
       go_meet
       case rel => exact ⟨_, ((t710 != t711)), (true), (by first | rfl | (simp; done) | (simp [*]; done)), (by first | rfl | (simp; done) | (simp [*]; done)), H', ⟨by have := HJ4.out; first | omega | exact Nat.le_refl _⟩, ⟨bel⟩⟩
      ·
       replace c25 := Bool.eq_false_iff.mpr c25
       subst c25
       rw [if_neg (show ¬ (false = true) by decide)] at H
       obtain ⟨t713, A260, H⟩ := Option.bind_eq_some_iff.mp H
       (try dsimp -simprocs only at H)
       have A26 := Aside0.mk A260
       clear A260
       have H' := Aside0.mk H
       clear H
       go_wp2_with (first | (go_at_call 49; (with_reducible refine (gimbalref04_IsInf.calls a0 false _ A24.out).mono ?_); rintro e w' ⟨rfl, ⟨nd, rfl⟩⟩; (try first | exact ⟨rfl, _, World.drewN_drewN _ _ _⟩ | exact ⟨rfl, _, Eq.trans (World.drewN_drewN _ _ _) (congrArg (World.drewN _) (Nat.add_assoc _ _ _))⟩)) | (go_at_call 49; (with_reducible refine (gimbalref04_IsInf.calls a1 t713 _ A26.out).mono ?_); rintro e w' ⟨rfl, ⟨nd, rfl⟩⟩; (try first | exact ⟨rfl, _, World.drewN_drewN _ _ _⟩ | exact ⟨rfl, _, Eq.trans (World.drewN_drewN _ _ _) (congrArg (World.drewN _) (Nat.add_assoc _ _ _))⟩)))
       repeat (go_quiet (first | (go_at_call 49; (with_reducible refine (gimbalref04_IsInf.calls a0 false _ A24.out).mono ?_); rintro e w' ⟨rfl, ⟨nd, rfl⟩⟩; (try first | exact ⟨rfl, _, World.drewN_drewN _ _ _⟩ | exact ⟨rfl, _, Eq.trans (World.drewN_drewN _ _ _) (congrArg (World.drewN _) (Nat.add_assoc _ _ _))⟩)) | (go_at_call 49; (with_reducible refine (gimbalref04_IsInf.calls a1 t713 _ A26.out).mono ?_); rintro e w' ⟨rfl, ⟨nd, rfl⟩⟩; (try first | exact ⟨rfl, _, World.drewN_drewN _ _ _⟩ | exact ⟨rfl, _, Eq.trans (World.drewN_drewN _ _ _) (congrArg (World.drewN _) (Nat.add_assoc _ _ _))⟩))); try go_wp2_with (first | (go_at_call 49; (with_reducible refine (gimbalref04_IsInf.calls a0 false _ A24.out).mono ?_); rintro e w' ⟨rfl, ⟨nd, rfl⟩⟩; (try first | exact ⟨rfl, _, World.drewN_drewN _ _ _⟩ | exact ⟨rfl, _, Eq.trans (World.drewN_drewN _ _ _) (congrArg (World.drewN _) (Nat.add_assoc _ _ _))⟩)) | (go_at_call 49; (with_reducible refine (gimbalref04_IsInf.calls a1 t713 _ A26.out).mono ?_); rintro e w' ⟨rfl, ⟨nd, rfl⟩⟩; (try first | exact ⟨rfl, _, World.drewN_drewN _ _ _⟩ | exact ⟨rfl, _, Eq.trans (World.drewN_drewN _ _ _) (congrArg (World.drewN _) (Nat.add_assoc _ _ _))⟩))))
       go_meet
       case rel => exact ⟨_, ((t710 != t711)), (t713), (by first | rfl | (simp; done) | (simp [*]; done)), (by first | rfl | (simp; done) | (simp [*]; done)), H', ⟨by have := HJ4.out; first | omega | exact Nat.le_refl _⟩, ⟨bel⟩⟩
     case rest =>
      clear HC23
      try clear c1
      try clear c2
      try clear p2
      try clear c10
      try clear c12
      try clear c14
      try clear c17
      try clear c19
      try clear c20
      try clear c25
      try clear p2
      obtain ⟨kq, x11_22, x51_22, rfl, rfl, HA, HJ22, HB⟩ := hcut
      cases kq with
      | zero => exact absurd HA.out (by simp [gimbalref05_Fma.j1])
      | succ kj22 =>
       have H := HA.out
       clear HA
       simp only [gimbalref05_Fma.j1] at H
       by_cases c27 : x51_22 = true
       ·
        subst c27
        rw [if_pos rfl] at H
        obtain ⟨t714, A280, H⟩ := Option.bind_eq_some_iff.mp H
        (try dsimp -simprocs only at H)
        have A28 := Aside0.mk A280
        clear A280
        obtain ⟨⟨t715, t716⟩, A290, H⟩ := Option.bind_eq_some_iff.mp H
        (try dsimp -simprocs only at H)
        have A29 := Aside0.mk A290
        clear A290
        simp only [Option.some.injEq, Prod.mk.injEq] at H
        obtain ⟨rfl, rfl⟩ := H
        go_wp2_with (first | (go_at_call 61; (with_reducible refine (gimbalref04_Signed.calls x11_22 9218868437227405312 t714 _ A28.out).mono ?_); rintro e w' ⟨rfl, ⟨nd, rfl⟩⟩; (try first | exact ⟨rfl, _, World.drewN_drewN _ _ _⟩ | exact ⟨rfl, _, Eq.trans (World.drewN_drewN _ _ _) (congrArg (World.drewN _) (Nat.add_assoc _ _ _))⟩)) | (go_at_call 60; (with_reducible refine (gimbalref04_Add.calls kj22 t714 a2 t715 t716 _ A29.out).mono ?_); rintro e w30 ⟨rfl, hb⟩; have n0_ := Aside0.mk (below_step bel hb); clear HB; have HB := n0_; clear n0_; (try clear hb)))
        repeat (go_quiet (first | (go_at_call 61; (with_reducible refine (gimbalref04_Signed.calls x11_22 9218868437227405312 t714 _ A28.out).mono ?_); rintro e w' ⟨rfl, ⟨nd, rfl⟩⟩; (try first | exact ⟨rfl, _, World.drewN_drewN _ _ _⟩ | exact ⟨rfl, _, Eq.trans (World.drewN_drewN _ _ _) (congrArg (World.drewN _) (Nat.add_assoc _ _ _))⟩)) | (go_at_call 60; (with_reducible refine (gimbalref04_Add.calls kj22 t714 a2 t715 t716 _ A29.out).mono ?_); rintro e w30 ⟨rfl, hb⟩; have n0_ := Aside0.mk (below_step bel hb); clear HB; have HB := n0_; clear n0_; (try clear hb))); try go_wp2_with (first | (go_at_call 61; (with_reducible refine (gimbalref04_Signed.calls x11_22 9218868437227405312 t714 _ A28.out).mono ?_); rintro e w' ⟨rfl, ⟨nd, rfl⟩⟩; (try first | exact ⟨rfl, _, World.drewN_drewN _ _ _⟩ | exact ⟨rfl, _, Eq.trans (World.drewN_drewN _ _ _) (congrArg (World.drewN _) (Nat.add_assoc _ _ _))⟩)) | (go_at_call 60; (with_reducible refine (gimbalref04_Add.calls kj22 t714 a2 t715 t716 _ A29.out).mono ?_); rintro e w30 ⟨rfl, hb⟩; have n0_ := Aside0.mk (below_step bel hb); clear HB; have HB := n0_; clear n0_; (try clear hb))))
        go_ret2
        exact ⟨er, bel⟩
       ·
        replace c27 := Bool.eq_false_iff.mpr c27
        subst c27
        rw [if_neg (show ¬ (false = true) by decide)] at H
        obtain ⟨t717, A310, H⟩ := Option.bind_eq_some_iff.mp H
        (try dsimp -simprocs only at H)
        have A31 := Aside0.mk A310
        clear A310
        by_cases c32 : t717 = true
        ·
         subst c32
         rw [if_pos rfl] at H
         simp only [Option.some.injEq, Prod.mk.injEq] at H
         obtain ⟨rfl, rfl⟩ := H
         go_wp2_with (first | (go_at_call 49; (with_reducible refine (gimbalref04_IsInf.calls a2 true _ A31.out).mono ?_); rintro e w' ⟨rfl, ⟨nd, rfl⟩⟩; (try first | exact ⟨rfl, _, World.drewN_drewN _ _ _⟩ | exact ⟨rfl, _, Eq.trans (World.drewN_drewN _ _ _) (congrArg (World.drewN _) (Nat.add_assoc _ _ _))⟩)))
         repeat (go_quiet (first | (go_at_call 49; (with_reducible refine (gimbalref04_IsInf.calls a2 true _ A31.out).mono ?_); rintro e w' ⟨rfl, ⟨nd, rfl⟩⟩; (try first | exact ⟨rfl, _, World.drewN_drewN _ _ _⟩ | exact ⟨rfl, _, Eq.trans (World.drewN_drewN _ _ _) (congrArg (World.drewN _) (Nat.add_assoc _ _ _))⟩))); try go_wp2_with (first | (go_at_call 49; (with_reducible refine (gimbalref04_IsInf.calls a2 true _ A31.out).mono ?_); rintro e w' ⟨rfl, ⟨nd, rfl⟩⟩; (try first | exact ⟨rfl, _, World.drewN_drewN _ _ _⟩ | exact ⟨rfl, _, Eq.trans (World.drewN_drewN _ _ _) (congrArg (World.drewN _) (Nat.add_assoc _ _ _))⟩))))
         go_ret2
         exact ⟨er, bel⟩
        ·
         replace c32 := Bool.eq_false_iff.mpr c32
         subst c32
         rw [if_neg (show ¬ (false = true) by decide)] at H
         obtain ⟨t718, A330, H⟩ := Option.bind_eq_some_iff.mp H
         (try dsimp -simprocs only at H)
         have A33 := Aside0.mk A330
         clear A330
         obtain ⟨t721, A340, H⟩ := Option.bind_eq_some_iff.mp H
         (try dsimp -simprocs only at H)
         have A34 := Aside0.mk A340
         clear A340
         obtain ⟨t724, A350, H⟩ := Option.bind_eq_some_iff.mp H
         (try dsimp -simprocs only at H)
         have A35 := Aside0.mk A350
         clear A350
         obtain ⟨t727, A360, H⟩ := Option.bind_eq_some_iff.mp H
         (try dsimp -simprocs only at H)
         have A36 := Aside0.mk A360
         clear A360
         obtain ⟨t730, A370, H⟩ := Option.bind_eq_some_iff.mp H
         (try dsimp -simprocs only at H)
         have A37 := Aside0.mk A370
         clear A370
         have HC38 := Aside0.mk H
         clear H
         go_upto_region 14 with (first | (go_at_call 49; (with_reducible refine (gimbalref04_IsInf.calls a2 false _ A31.out).mono ?_); rintro e w' ⟨rfl, ⟨nd, rfl⟩⟩; (try first | exact ⟨rfl, _, World.drewN_drewN _ _ _⟩ | exact ⟨rfl, _, Eq.trans (World.drewN_drewN _ _ _) (congrArg (World.drewN _) (Nat.add_assoc _ _ _))⟩)) | (go_at_call 18; (with_reducible refine (gimbalref04_Whole.calls kj22 a0 t718 _ A33.out).mono ?_); rintro e w39 ⟨v719, rfl, ho0, hb⟩; have n0_ := Aside0.mk (Kd.R_lower ho0 (below_size bel)); have n1_ := Aside0.mk (below_step bel hb); clear HB; have HO720 := n0_; have HB := n1_; clear n0_ n1_; (try clear hb); (try clear ho0)) | (go_at_call 18; (with_reducible refine (gimbalref04_Whole.calls kj22 a1 t721 _ A34.out).mono ?_); rintro e w40 ⟨v722, rfl, ho0, hb⟩; have n0_ := Aside0.mk (Kd.R_elder' (kr HO720) (Kd.R_base ho0) hb); have n1_ := Aside0.mk (Kd.R_lower (Kd.R_new' ho0 (Kd.R_lt (kr HO720))) (below_size bel)); have n2_ := Aside0.mk (below_step bel hb); clear HO720; clear HB; have HO720 := n0_; have HO723 := n1_; have HB := n2_; clear n0_ n1_ n2_; (try clear hb); (try clear ho0); obtain ⟨Ao41, co41, eo41⟩ := Kd.R_slice HO720.out; subst eo41; obtain ⟨Ao42, co42, eo42⟩ := Kd.R_slice HO723.out; subst eo42) | (go_at_call 48; (with_reducible refine (gimbalref02_Mul.calls kj22 _ _ t718 _ _ t721 t724 _ ?side1 ?side2 ?side3 ?side4 A35.out).mono ?_); (case side1 => exact ks HO720); (case side2 => exact (Kd.R_reads' HO720.out).2.1); (case side3 => exact ks HO723); (case side4 => exact (Kd.R_reads' HO723.out).2.1); rintro e w43 ⟨v725, rfl, ho0, hb⟩; have n0_ := Aside0.mk (Kd.R_elder' (kr HO720) (Kd.R_base ho0) hb); have n1_ := Aside0.mk (Kd.R_elder' (kr HO723) (Kd.R_base ho0) hb); have n2_ := Aside0.mk (Kd.R_lower (Kd.R_new' (Kd.R_new' ho0 (Kd.R_lt (kr HO720))) (Kd.R_lt (kr HO723))) (below_size bel)); have n3_ := Aside0.mk (below_step bel hb); clear HO720; clear HO723; clear HB; have HO720 := n0_; have HO723 := n1_; have HO726 := n2_; have HB := n3_; clear n0_ n1_ n2_ n3_; (try clear hb); (try clear ho0)) | (go_at_call 18; (with_reducible refine (gimbalref04_Whole.calls kj22 a2 t727 _ A36.out).mono ?_); rintro e w44 ⟨v728, rfl, ho0, hb⟩; have n0_ := Aside0.mk (Kd.R_elder' (kr HO720) (Kd.R_base ho0) hb); have n1_ := Aside0.mk (Kd.R_elder' (kr HO723) (Kd.R_base ho0) hb); have n2_ := Aside0.mk (Kd.R_elder' (kr HO726) (Kd.R_base ho0) hb); have n3_ := Aside0.mk (Kd.R_lower (Kd.R_new' (Kd.R_new' (Kd.R_new' ho0 (Kd.R_lt (kr HO720))) (Kd.R_lt (kr HO723))) (Kd.R_lt (kr HO726))) (below_size bel)); have n4_ := Aside0.mk (below_step bel hb); clear HO720; clear HO723; clear HO726; clear HB; have HO720 := n0_; have HO723 := n1_; have HO726 := n2_; have HO729 := n3_; have HB := n4_; clear n0_ n1_ n2_ n3_ n4_; (try clear hb); (try clear ho0); obtain ⟨Ao45, co45, eo45⟩ := Kd.R_slice HO729.out; subst eo45) | (go_at_call 19; (with_reducible refine (gimbalref02_Up.calls kj22 _ _ t727 1074 t730 _ ?side1 ?side2 A37.out).mono ?_); (case side1 => exact ks HO729); (case side2 => exact (Kd.R_reads' HO729.out).2.1); rintro e w46 ⟨v731, rfl, ho0, hb⟩; have n0_ := Aside0.mk (Kd.R_elder' (kr HO720) (Kd.R_base ho0) hb); have n1_ := Aside0.mk (Kd.R_elder' (kr HO723) (Kd.R_base ho0) hb); have n2_ := Aside0.mk (Kd.R_elder' (kr HO726) (Kd.R_base ho0) hb); have n3_ := Aside0.mk (Kd.R_elder' (kr HO729) (Kd.R_base ho0) hb); have n4_ := Aside0.mk (Kd.R_lower (Kd.R_new' (Kd.R_new' (Kd.R_new' (Kd.R_new' ho0 (Kd.R_lt (kr HO720))) (Kd.R_lt (kr HO723))) (Kd.R_lt (kr HO726))) (Kd.R_lt (kr HO729))) (below_size bel)); have n5_ := Aside0.mk (below_step bel hb); clear HO720; clear HO723; clear HO726; clear HO729; clear HB; have HO720 := n0_; have HO723 := n1_; have HO726 := n2_; have HO729 := n3_; have HO732 := n4_; have HB := n5_; clear n0_ n1_ n2_ n3_ n4_ n5_; (try clear hb); (try clear ho0)))
         repeat (go_quiet (first | (go_at_call 49; (with_reducible refine (gimbalref04_IsInf.calls a2 false _ A31.out).mono ?_); rintro e w' ⟨rfl, ⟨nd, rfl⟩⟩; (try first | exact ⟨rfl, _, World.drewN_drewN _ _ _⟩ | exact ⟨rfl, _, Eq.trans (World.drewN_drewN _ _ _) (congrArg (World.drewN _) (Nat.add_assoc _ _ _))⟩)) | (go_at_call 18; (with_reducible refine (gimbalref04_Whole.calls kj22 a0 t718 _ A33.out).mono ?_); rintro e w39 ⟨v719, rfl, ho0, hb⟩; have n0_ := Aside0.mk (Kd.R_lower ho0 (below_size bel)); have n1_ := Aside0.mk (below_step bel hb); clear HB; have HO720 := n0_; have HB := n1_; clear n0_ n1_; (try clear hb); (try clear ho0)) | (go_at_call 18; (with_reducible refine (gimbalref04_Whole.calls kj22 a1 t721 _ A34.out).mono ?_); rintro e w40 ⟨v722, rfl, ho0, hb⟩; have n0_ := Aside0.mk (Kd.R_elder' (kr HO720) (Kd.R_base ho0) hb); have n1_ := Aside0.mk (Kd.R_lower (Kd.R_new' ho0 (Kd.R_lt (kr HO720))) (below_size bel)); have n2_ := Aside0.mk (below_step bel hb); clear HO720; clear HB; have HO720 := n0_; have HO723 := n1_; have HB := n2_; clear n0_ n1_ n2_; (try clear hb); (try clear ho0); obtain ⟨Ao41, co41, eo41⟩ := Kd.R_slice HO720.out; subst eo41; obtain ⟨Ao42, co42, eo42⟩ := Kd.R_slice HO723.out; subst eo42) | (go_at_call 48; (with_reducible refine (gimbalref02_Mul.calls kj22 _ _ t718 _ _ t721 t724 _ ?side1 ?side2 ?side3 ?side4 A35.out).mono ?_); (case side1 => exact ks HO720); (case side2 => exact (Kd.R_reads' HO720.out).2.1); (case side3 => exact ks HO723); (case side4 => exact (Kd.R_reads' HO723.out).2.1); rintro e w43 ⟨v725, rfl, ho0, hb⟩; have n0_ := Aside0.mk (Kd.R_elder' (kr HO720) (Kd.R_base ho0) hb); have n1_ := Aside0.mk (Kd.R_elder' (kr HO723) (Kd.R_base ho0) hb); have n2_ := Aside0.mk (Kd.R_lower (Kd.R_new' (Kd.R_new' ho0 (Kd.R_lt (kr HO720))) (Kd.R_lt (kr HO723))) (below_size bel)); have n3_ := Aside0.mk (below_step bel hb); clear HO720; clear HO723; clear HB; have HO720 := n0_; have HO723 := n1_; have HO726 := n2_; have HB := n3_; clear n0_ n1_ n2_ n3_; (try clear hb); (try clear ho0)) | (go_at_call 18; (with_reducible refine (gimbalref04_Whole.calls kj22 a2 t727 _ A36.out).mono ?_); rintro e w44 ⟨v728, rfl, ho0, hb⟩; have n0_ := Aside0.mk (Kd.R_elder' (kr HO720) (Kd.R_base ho0) hb); have n1_ := Aside0.mk (Kd.R_elder' (kr HO723) (Kd.R_base ho0) hb); have n2_ := Aside0.mk (Kd.R_elder' (kr HO726) (Kd.R_base ho0) hb); have n3_ := Aside0.mk (Kd.R_lower (Kd.R_new' (Kd.R_new' (Kd.R_new' ho0 (Kd.R_lt (kr HO720))) (Kd.R_lt (kr HO723))) (Kd.R_lt (kr HO726))) (below_size bel)); have n4_ := Aside0.mk (below_step bel hb); clear HO720; clear HO723; clear HO726; clear HB; have HO720 := n0_; have HO723 := n1_; have HO726 := n2_; have HO729 := n3_; have HB := n4_; clear n0_ n1_ n2_ n3_ n4_; (try clear hb); (try clear ho0); obtain ⟨Ao45, co45, eo45⟩ := Kd.R_slice HO729.out; subst eo45) | (go_at_call 19; (with_reducible refine (gimbalref02_Up.calls kj22 _ _ t727 1074 t730 _ ?side1 ?side2 A37.out).mono ?_); (case side1 => exact ks HO729); (case side2 => exact (Kd.R_reads' HO729.out).2.1); rintro e w46 ⟨v731, rfl, ho0, hb⟩; have n0_ := Aside0.mk (Kd.R_elder' (kr HO720) (Kd.R_base ho0) hb); have n1_ := Aside0.mk (Kd.R_elder' (kr HO723) (Kd.R_base ho0) hb); have n2_ := Aside0.mk (Kd.R_elder' (kr HO726) (Kd.R_base ho0) hb); have n3_ := Aside0.mk (Kd.R_elder' (kr HO729) (Kd.R_base ho0) hb); have n4_ := Aside0.mk (Kd.R_lower (Kd.R_new' (Kd.R_new' (Kd.R_new' (Kd.R_new' ho0 (Kd.R_lt (kr HO720))) (Kd.R_lt (kr HO723))) (Kd.R_lt (kr HO726))) (Kd.R_lt (kr HO729))) (below_size bel)); have n5_ := Aside0.mk (below_step bel hb); clear HO720; clear HO723; clear HO726; clear HO729; clear HB; have HO720 := n0_; have HO723 := n1_; have HO726 := n2_; have HO729 := n3_; have HO732 := n4_; have HB := n5_; clear n0_ n1_ n2_ n3_ n4_ n5_; (try clear hb); (try clear ho0))); go_upto_region 14 with (first | (go_at_call 49; (with_reducible refine (gimbalref04_IsInf.calls a2 false _ A31.out).mono ?_); rintro e w' ⟨rfl, ⟨nd, rfl⟩⟩; (try first | exact ⟨rfl, _, World.drewN_drewN _ _ _⟩ | exact ⟨rfl, _, Eq.trans (World.drewN_drewN _ _ _) (congrArg (World.drewN _) (Nat.add_assoc _ _ _))⟩)) | (go_at_call 18; (with_reducible refine (gimbalref04_Whole.calls kj22 a0 t718 _ A33.out).mono ?_); rintro e w39 ⟨v719, rfl, ho0, hb⟩; have n0_ := Aside0.mk (Kd.R_lower ho0 (below_size bel)); have n1_ := Aside0.mk (below_step bel hb); clear HB; have HO720 := n0_; have HB := n1_; clear n0_ n1_; (try clear hb); (try clear ho0)) | (go_at_call 18; (with_reducible refine (gimbalref04_Whole.calls kj22 a1 t721 _ A34.out).mono ?_); rintro e w40 ⟨v722, rfl, ho0, hb⟩; have n0_ := Aside0.mk (Kd.R_elder' (kr HO720) (Kd.R_base ho0) hb); have n1_ := Aside0.mk (Kd.R_lower (Kd.R_new' ho0 (Kd.R_lt (kr HO720))) (below_size bel)); have n2_ := Aside0.mk (below_step bel hb); clear HO720; clear HB; have HO720 := n0_; have HO723 := n1_; have HB := n2_; clear n0_ n1_ n2_; (try clear hb); (try clear ho0); obtain ⟨Ao41, co41, eo41⟩ := Kd.R_slice HO720.out; subst eo41; obtain ⟨Ao42, co42, eo42⟩ := Kd.R_slice HO723.out; subst eo42) | (go_at_call 48; (with_reducible refine (gimbalref02_Mul.calls kj22 _ _ t718 _ _ t721 t724 _ ?side1 ?side2 ?side3 ?side4 A35.out).mono ?_); (case side1 => exact ks HO720); (case side2 => exact (Kd.R_reads' HO720.out).2.1); (case side3 => exact ks HO723); (case side4 => exact (Kd.R_reads' HO723.out).2.1); rintro e w43 ⟨v725, rfl, ho0, hb⟩; have n0_ := Aside0.mk (Kd.R_elder' (kr HO720) (Kd.R_base ho0) hb); have n1_ := Aside0.mk (Kd.R_elder' (kr HO723) (Kd.R_base ho0) hb); have n2_ := Aside0.mk (Kd.R_lower (Kd.R_new' (Kd.R_new' ho0 (Kd.R_lt (kr HO720))) (Kd.R_lt (kr HO723))) (below_size bel)); have n3_ := Aside0.mk (below_step bel hb); clear HO720; clear HO723; clear HB; have HO720 := n0_; have HO723 := n1_; have HO726 := n2_; have HB := n3_; clear n0_ n1_ n2_ n3_; (try clear hb); (try clear ho0)) | (go_at_call 18; (with_reducible refine (gimbalref04_Whole.calls kj22 a2 t727 _ A36.out).mono ?_); rintro e w44 ⟨v728, rfl, ho0, hb⟩; have n0_ := Aside0.mk (Kd.R_elder' (kr HO720) (Kd.R_base ho0) hb); have n1_ := Aside0.mk (Kd.R_elder' (kr HO723) (Kd.R_base ho0) hb); have n2_ := Aside0.mk (Kd.R_elder' (kr HO726) (Kd.R_base ho0) hb); have n3_ := Aside0.mk (Kd.R_lower (Kd.R_new' (Kd.R_new' (Kd.R_new' ho0 (Kd.R_lt (kr HO720))) (Kd.R_lt (kr HO723))) (Kd.R_lt (kr HO726))) (below_size bel)); have n4_ := Aside0.mk (below_step bel hb); clear HO720; clear HO723; clear HO726; clear HB; have HO720 := n0_; have HO723 := n1_; have HO726 := n2_; have HO729 := n3_; have HB := n4_; clear n0_ n1_ n2_ n3_ n4_; (try clear hb); (try clear ho0); obtain ⟨Ao45, co45, eo45⟩ := Kd.R_slice HO729.out; subst eo45) | (go_at_call 19; (with_reducible refine (gimbalref02_Up.calls kj22 _ _ t727 1074 t730 _ ?side1 ?side2 A37.out).mono ?_); (case side1 => exact ks HO729); (case side2 => exact (Kd.R_reads' HO729.out).2.1); rintro e w46 ⟨v731, rfl, ho0, hb⟩; have n0_ := Aside0.mk (Kd.R_elder' (kr HO720) (Kd.R_base ho0) hb); have n1_ := Aside0.mk (Kd.R_elder' (kr HO723) (Kd.R_base ho0) hb); have n2_ := Aside0.mk (Kd.R_elder' (kr HO726) (Kd.R_base ho0) hb); have n3_ := Aside0.mk (Kd.R_elder' (kr HO729) (Kd.R_base ho0) hb); have n4_ := Aside0.mk (Kd.R_lower (Kd.R_new' (Kd.R_new' (Kd.R_new' (Kd.R_new' ho0 (Kd.R_lt (kr HO720))) (Kd.R_lt (kr HO723))) (Kd.R_lt (kr HO726))) (Kd.R_lt (kr HO729))) (below_size bel)); have n5_ := Aside0.mk (below_step bel hb); clear HO720; clear HO723; clear HO726; clear HO729; clear HB; have HO720 := n0_; have HO723 := n1_; have HO726 := n2_; have HO729 := n3_; have HO732 := n4_; have HB := n5_; clear n0_ n1_ n2_ n3_ n4_ n5_; (try clear hb); (try clear ho0))))
         (try simp only [Act.put, List.setIfInBounds_toArray, List.set_cons_zero, List.set_cons_succ])
         go_cut [76] (fun v76 wc => ∃ (kq : Nat) (x76_37 : Bool), v76 = .bool x76_37 ∧ Aside0 (gimbalref05_Fma.j2 kq a2 x11_22 t724 t730 x76_37 = some (r1, r2)) ∧ Aside0 (kq ≤ kj22) ∧ Aside0 (Kd.R (Kd.int .i64) 3 wc w.heap.size (fun k_ => some k_ ≠ (v731 : Value).ownBlock) v725 t724) ∧ Aside0 (Kd.R (Kd.int .i64) 3 wc w.heap.size (fun k_ => some k_ ≠ (v725 : Value).ownBlock) v731 t730) ∧ Aside0 (Below w.heap.size w wc))
         case first =>
          have H := HC38.out
          clear HC38
          by_cases c47 : (t724.length : Int) = 0
          ·
           rw [if_pos c47] at H
           have c47b0 : ((t724.length : Int) == 0) = true := beq_iff_eq.mpr c47
           have c47b1 : ((t724.length : Int) != 0) = false := bne_eq_false_iff_eq.mpr c47
           clear c47
           (first | rw [c47b0] | (simp only [i64_w, i32_w]; rw [c47b0]) | skip)
           have H' := Aside0.mk H
           clear H
           obtain ⟨Ao48, co48, eo48⟩ := Kd.R_slice HO726.out
           subst eo48
           obtain ⟨Ao49, co49, eo49⟩ := Kd.R_slice HO732.out
           subst eo49
           go_wp2
           repeat (go_quiet (fail); try go_wp2)
           go_meet
           case rel => exact ⟨_, (((t730.length : Int) == 0)), (by first | rfl | (simp; done) | (simp [*]; done)), H', ⟨by have := HJ4.out; have := HJ22.out; first | omega | exact Nat.le_refl _⟩, ⟨by (with_reducible repeat (first | apply Kd.R_alloc | apply Kd.R_drewN | apply Kd.R_drew)); exact Kd.R_mono HO726.out (fun _ hk => hk.2)⟩, ⟨by (with_reducible repeat (first | apply Kd.R_alloc | apply Kd.R_drewN | apply Kd.R_drew)); exact Kd.R_mono HO732.out (fun _ hk => hk.1.2)⟩, ⟨bel⟩⟩
          ·
           rw [if_neg c47] at H
           have c47b0 : ((t724.length : Int) == 0) = false := beq_eq_false_iff_ne.mpr c47
           have c47b1 : ((t724.length : Int) != 0) = true := bne_iff_ne.mpr c47
           have c47b2 : ¬ (t724 = []) := fun h_ => c47 (by rw [h_]; rfl)
           (first | rw [c47b0] | (simp only [i64_w, i32_w]; rw [c47b0]) | skip)
           have H' := Aside0.mk H
           clear H
           obtain ⟨Ao50, co50, eo50⟩ := Kd.R_slice HO726.out
           subst eo50
           go_wp2
           repeat (go_quiet (fail); try go_wp2)
           go_meet
           case rel => exact ⟨_, (false), (by first | rfl | (simp; done) | (simp [*]; done)), H', ⟨by have := HJ4.out; have := HJ22.out; first | omega | exact Nat.le_refl _⟩, ⟨by (with_reducible repeat (first | apply Kd.R_alloc | apply Kd.R_drewN | apply Kd.R_drew)); exact Kd.R_mono HO726.out (fun _ hk => hk.2)⟩, ⟨by (with_reducible repeat (first | apply Kd.R_alloc | apply Kd.R_drewN | apply Kd.R_drew)); exact Kd.R_mono HO732.out (fun _ hk => hk.1.2)⟩, ⟨bel⟩⟩
         case rest =>
          clear HC38
          try clear c1
          try clear c2
          try clear p2
          try clear c3
          try clear c4
          try clear c10
          try clear c12
          try clear c14
          try clear c17
          try clear c19
          try clear c20
          try clear c25
          try clear c27
          try clear c29
          try clear c32
          try clear c47
          try clear c47b0
          try clear c47b1
          try clear c47b2
          try clear p2
          obtain ⟨kq, x76_37, rfl, HA, HJ37, HO_12, HO_13, HB⟩ := hcut
          cases kq with
          | zero => exact absurd HA.out (by simp [gimbalref05_Fma.j2])
          | succ kj37 =>
           have H := HA.out
           clear HA
           simp only [gimbalref05_Fma.j2] at H
           by_cases c51 : x76_37 = true
           ·
            subst c51
            rw [if_pos rfl] at H
            obtain ⟨t733, A520, H⟩ := Option.bind_eq_some_iff.mp H
            (try dsimp -simprocs only at H)
            have A52 := Aside0.mk A520
            clear A520
            obtain ⟨⟨t734, t735⟩, A530, H⟩ := Option.bind_eq_some_iff.mp H
            (try dsimp -simprocs only at H)
            have A53 := Aside0.mk A530
            clear A530
            simp only [Option.some.injEq, Prod.mk.injEq] at H
            obtain ⟨rfl, rfl⟩ := H
            go_wp2_with (first | (go_at_call 61; (with_reducible refine (gimbalref04_Signed.calls x11_22 0 t733 _ A52.out).mono ?_); rintro e w' ⟨rfl, ⟨nd, rfl⟩⟩; (try first | exact ⟨rfl, _, World.drewN_drewN _ _ _⟩ | exact ⟨rfl, _, Eq.trans (World.drewN_drewN _ _ _) (congrArg (World.drewN _) (Nat.add_assoc _ _ _))⟩)) | (go_at_call 60; (with_reducible refine (gimbalref04_Add.calls kj37 t733 a2 t734 t735 _ A53.out).mono ?_); rintro e w54 ⟨rfl, hb⟩; have n0_ := Aside0.mk (Kd.R_below (kr HO_12) hb); have n1_ := Aside0.mk (Kd.R_below (kr HO_13) hb); have n2_ := Aside0.mk (below_step bel hb); clear HO_12; clear HO_13; clear HB; have HO_12 := n0_; have HO_13 := n1_; have HB := n2_; clear n0_ n1_ n2_; (try clear hb)))
            repeat (go_quiet (first | (go_at_call 61; (with_reducible refine (gimbalref04_Signed.calls x11_22 0 t733 _ A52.out).mono ?_); rintro e w' ⟨rfl, ⟨nd, rfl⟩⟩; (try first | exact ⟨rfl, _, World.drewN_drewN _ _ _⟩ | exact ⟨rfl, _, Eq.trans (World.drewN_drewN _ _ _) (congrArg (World.drewN _) (Nat.add_assoc _ _ _))⟩)) | (go_at_call 60; (with_reducible refine (gimbalref04_Add.calls kj37 t733 a2 t734 t735 _ A53.out).mono ?_); rintro e w54 ⟨rfl, hb⟩; have n0_ := Aside0.mk (Kd.R_below (kr HO_12) hb); have n1_ := Aside0.mk (Kd.R_below (kr HO_13) hb); have n2_ := Aside0.mk (below_step bel hb); clear HO_12; clear HO_13; clear HB; have HO_12 := n0_; have HO_13 := n1_; have HB := n2_; clear n0_ n1_ n2_; (try clear hb))); try go_wp2_with (first | (go_at_call 61; (with_reducible refine (gimbalref04_Signed.calls x11_22 0 t733 _ A52.out).mono ?_); rintro e w' ⟨rfl, ⟨nd, rfl⟩⟩; (try first | exact ⟨rfl, _, World.drewN_drewN _ _ _⟩ | exact ⟨rfl, _, Eq.trans (World.drewN_drewN _ _ _) (congrArg (World.drewN _) (Nat.add_assoc _ _ _))⟩)) | (go_at_call 60; (with_reducible refine (gimbalref04_Add.calls kj37 t733 a2 t734 t735 _ A53.out).mono ?_); rintro e w54 ⟨rfl, hb⟩; have n0_ := Aside0.mk (Kd.R_below (kr HO_12) hb); have n1_ := Aside0.mk (Kd.R_below (kr HO_13) hb); have n2_ := Aside0.mk (below_step bel hb); clear HO_12; clear HO_13; clear HB; have HO_12 := n0_; have HO_13 := n1_; have HB := n2_; clear n0_ n1_ n2_; (try clear hb))))
            go_ret2
            exact ⟨er, bel⟩
           ·
            replace c51 := Bool.eq_false_iff.mpr c51
            subst c51
            rw [if_neg (show ¬ (false = true) by decide)] at H
            obtain ⟨t736, A550, H⟩ := Option.bind_eq_some_iff.mp H
            (try dsimp -simprocs only at H)
            have A55 := Aside0.mk A550
            clear A550
            obtain ⟨t739, A560, H⟩ := Option.bind_eq_some_iff.mp H
            (try dsimp -simprocs only at H)
            have A56 := Aside0.mk A560
            clear A560
            by_cases c57 : (x11_22 != t739) = true
            ·
             rw [if_pos c57] at H
             have c57b0 : (x11_22 != t739) = true := c57
             (try (have c57b1 : decide (x11_22 = t739) = false := by simpa using c57))
             (try (have c57b2 : (x11_22 == t739) = false := by simpa using c57))
             (try (have c57b3 : ¬ (x11_22 = t739) := by simpa using c57))
             clear c57
             obtain ⟨t740, A580, H⟩ := Option.bind_eq_some_iff.mp H
             (try dsimp -simprocs only at H)
             have A58 := Aside0.mk A580
             clear A580
             by_cases c59 : t740 < 0
             ·
              rw [if_pos c59] at H
              have c59b0 : decide (t740 < 0) = true := decide_eq_true c59
              clear c59
              obtain ⟨t741, A600, H⟩ := Option.bind_eq_some_iff.mp H
              (try dsimp -simprocs only at H)
              have A60 := Aside0.mk A600
              clear A600
              by_cases c61 : (t741.length : Int) = 0
              ·
               rw [if_pos c61] at H
               have c61b0 : ((t741.length : Int) == 0) = true := beq_iff_eq.mpr c61
               have c61b1 : ((t741.length : Int) != 0) = false := bne_eq_false_iff_eq.mpr c61
               clear c61
               simp only [Option.some.injEq, Prod.mk.injEq] at H
               obtain ⟨rfl, rfl⟩ := H
               obtain ⟨Ao62, co62, eo62⟩ := Kd.R_slice HO_12.out
               subst eo62
               obtain ⟨Ao63, co63, eo63⟩ := Kd.R_slice HO_13.out
               subst eo63
               go_wp2_with (first | (go_at_call 62; (with_reducible refine (gimbalref02_Add.calls kj37 _ _ t724 _ _ t730 t736 _ ?side1 ?side2 ?side3 ?side4 A55.out).mono ?_); (case side1 => exact ks HO_12); (case side2 => exact (Kd.R_reads' HO_12.out).2.1); (case side3 => exact ks HO_13); (case side4 => exact (Kd.R_reads' HO_13.out).2.1); rintro e w64 ⟨v737, rfl, ho0, hb⟩; have n0_ := Aside0.mk (Kd.R_elder' (kr HO_12) (Kd.R_base ho0) hb); have n1_ := Aside0.mk (Kd.R_elder' (kr HO_13) (Kd.R_base ho0) hb); have n2_ := Aside0.mk (Kd.R_lower (Kd.R_new' (Kd.R_new' ho0 (Kd.R_lt (kr HO_12))) (Kd.R_lt (kr HO_13))) (below_size bel)); have n3_ := Aside0.mk (below_step bel hb); clear HO_12; clear HO_13; clear HB; have HO_12 := n0_; have HO_13 := n1_; have HO738 := n2_; have HB := n3_; clear n0_ n1_ n2_ n3_; (try clear hb); (try clear ho0)) | (go_at_call 44; (with_reducible refine (gimbalref04_Neg.calls a2 t739 _ A56.out).mono ?_); rintro e w' ⟨rfl, ⟨nd, rfl⟩⟩; (try first | exact ⟨rfl, _, World.drewN_drewN _ _ _⟩ | exact ⟨rfl, _, Eq.trans (World.drewN_drewN _ _ _) (congrArg (World.drewN _) (Nat.add_assoc _ _ _))⟩)) | (go_at_call 20; (with_reducible refine (gimbalref02_Cmp.calls kj37 _ _ t724 _ _ t730 t740 _ ?side1 ?side2 ?side3 ?side4 A58.out).mono ?_); (case side1 => exact ks HO_12); (case side2 => exact (Kd.R_reads' HO_12.out).2.1); (case side3 => exact ks HO_13); (case side4 => exact (Kd.R_reads' HO_13.out).2.1); rintro e w65 ⟨rfl, hb⟩; have n0_ := Aside0.mk (Kd.R_below (kr HO_12) hb); have n1_ := Aside0.mk (Kd.R_below (kr HO_13) hb); have n2_ := Aside0.mk (Kd.R_below (kr HO738) hb); have n3_ := Aside0.mk (below_step bel hb); clear HO_12; clear HO_13; clear HO738; clear HB; have HO_12 := n0_; have HO_13 := n1_; have HO738 := n2_; have HB := n3_; clear n0_ n1_ n2_ n3_; (try clear hb)) | (go_at_call 63; (with_reducible refine (gimbalref02_Sub.calls kj37 _ _ t730 _ _ t724 t741 _ ?side1 ?side2 ?side3 ?side4 A60.out).mono ?_); (case side1 => exact ks HO_13); (case side2 => exact (Kd.R_reads' HO_13.out).2.1); (case side3 => exact ks HO_12); (case side4 => exact (Kd.R_reads' HO_12.out).2.1); rintro e w66 ⟨v742, rfl, ho0, hb⟩; have n0_ := Aside0.mk (Kd.R_elder' (kr HO_12) (Kd.R_base ho0) hb); have n1_ := Aside0.mk (Kd.R_elder' (kr HO_13) (Kd.R_base ho0) hb); have n2_ := Aside0.mk (Kd.R_elder' (kr HO738) (Kd.R_base ho0) hb); have n3_ := Aside0.mk (Kd.R_lower (Kd.R_new' (Kd.R_new' (Kd.R_new' ho0 (Kd.R_lt (kr HO_12))) (Kd.R_lt (kr HO_13))) (Kd.R_lt (kr HO738))) (below_size bel)); have n4_ := Aside0.mk (below_step bel hb); clear HO_12; clear HO_13; clear HO738; clear HB; have HO_12 := n0_; have HO_13 := n1_; have HO738 := n2_; have HO743 := n3_; have HB := n4_; clear n0_ n1_ n2_ n3_ n4_; (try clear hb); (try clear ho0); obtain ⟨Ao67, co67, eo67⟩ := Kd.R_slice HO743.out; subst eo67))
               repeat (go_quiet (first | (go_at_call 62; (with_reducible refine (gimbalref02_Add.calls kj37 _ _ t724 _ _ t730 t736 _ ?side1 ?side2 ?side3 ?side4 A55.out).mono ?_); (case side1 => exact ks HO_12); (case side2 => exact (Kd.R_reads' HO_12.out).2.1); (case side3 => exact ks HO_13); (case side4 => exact (Kd.R_reads' HO_13.out).2.1); rintro e w64 ⟨v737, rfl, ho0, hb⟩; have n0_ := Aside0.mk (Kd.R_elder' (kr HO_12) (Kd.R_base ho0) hb); have n1_ := Aside0.mk (Kd.R_elder' (kr HO_13) (Kd.R_base ho0) hb); have n2_ := Aside0.mk (Kd.R_lower (Kd.R_new' (Kd.R_new' ho0 (Kd.R_lt (kr HO_12))) (Kd.R_lt (kr HO_13))) (below_size bel)); have n3_ := Aside0.mk (below_step bel hb); clear HO_12; clear HO_13; clear HB; have HO_12 := n0_; have HO_13 := n1_; have HO738 := n2_; have HB := n3_; clear n0_ n1_ n2_ n3_; (try clear hb); (try clear ho0)) | (go_at_call 44; (with_reducible refine (gimbalref04_Neg.calls a2 t739 _ A56.out).mono ?_); rintro e w' ⟨rfl, ⟨nd, rfl⟩⟩; (try first | exact ⟨rfl, _, World.drewN_drewN _ _ _⟩ | exact ⟨rfl, _, Eq.trans (World.drewN_drewN _ _ _) (congrArg (World.drewN _) (Nat.add_assoc _ _ _))⟩)) | (go_at_call 20; (with_reducible refine (gimbalref02_Cmp.calls kj37 _ _ t724 _ _ t730 t740 _ ?side1 ?side2 ?side3 ?side4 A58.out).mono ?_); (case side1 => exact ks HO_12); (case side2 => exact (Kd.R_reads' HO_12.out).2.1); (case side3 => exact ks HO_13); (case side4 => exact (Kd.R_reads' HO_13.out).2.1); rintro e w65 ⟨rfl, hb⟩; have n0_ := Aside0.mk (Kd.R_below (kr HO_12) hb); have n1_ := Aside0.mk (Kd.R_below (kr HO_13) hb); have n2_ := Aside0.mk (Kd.R_below (kr HO738) hb); have n3_ := Aside0.mk (below_step bel hb); clear HO_12; clear HO_13; clear HO738; clear HB; have HO_12 := n0_; have HO_13 := n1_; have HO738 := n2_; have HB := n3_; clear n0_ n1_ n2_ n3_; (try clear hb)) | (go_at_call 63; (with_reducible refine (gimbalref02_Sub.calls kj37 _ _ t730 _ _ t724 t741 _ ?side1 ?side2 ?side3 ?side4 A60.out).mono ?_); (case side1 => exact ks HO_13); (case side2 => exact (Kd.R_reads' HO_13.out).2.1); (case side3 => exact ks HO_12); (case side4 => exact (Kd.R_reads' HO_12.out).2.1); rintro e w66 ⟨v742, rfl, ho0, hb⟩; have n0_ := Aside0.mk (Kd.R_elder' (kr HO_12) (Kd.R_base ho0) hb); have n1_ := Aside0.mk (Kd.R_elder' (kr HO_13) (Kd.R_base ho0) hb); have n2_ := Aside0.mk (Kd.R_elder' (kr HO738) (Kd.R_base ho0) hb); have n3_ := Aside0.mk (Kd.R_lower (Kd.R_new' (Kd.R_new' (Kd.R_new' ho0 (Kd.R_lt (kr HO_12))) (Kd.R_lt (kr HO_13))) (Kd.R_lt (kr HO738))) (below_size bel)); have n4_ := Aside0.mk (below_step bel hb); clear HO_12; clear HO_13; clear HO738; clear HB; have HO_12 := n0_; have HO_13 := n1_; have HO738 := n2_; have HO743 := n3_; have HB := n4_; clear n0_ n1_ n2_ n3_ n4_; (try clear hb); (try clear ho0); obtain ⟨Ao67, co67, eo67⟩ := Kd.R_slice HO743.out; subst eo67)); try go_wp2_with (first | (go_at_call 62; (with_reducible refine (gimbalref02_Add.calls kj37 _ _ t724 _ _ t730 t736 _ ?side1 ?side2 ?side3 ?side4 A55.out).mono ?_); (case side1 => exact ks HO_12); (case side2 => exact (Kd.R_reads' HO_12.out).2.1); (case side3 => exact ks HO_13); (case side4 => exact (Kd.R_reads' HO_13.out).2.1); rintro e w64 ⟨v737, rfl, ho0, hb⟩; have n0_ := Aside0.mk (Kd.R_elder' (kr HO_12) (Kd.R_base ho0) hb); have n1_ := Aside0.mk (Kd.R_elder' (kr HO_13) (Kd.R_base ho0) hb); have n2_ := Aside0.mk (Kd.R_lower (Kd.R_new' (Kd.R_new' ho0 (Kd.R_lt (kr HO_12))) (Kd.R_lt (kr HO_13))) (below_size bel)); have n3_ := Aside0.mk (below_step bel hb); clear HO_12; clear HO_13; clear HB; have HO_12 := n0_; have HO_13 := n1_; have HO738 := n2_; have HB := n3_; clear n0_ n1_ n2_ n3_; (try clear hb); (try clear ho0)) | (go_at_call 44; (with_reducible refine (gimbalref04_Neg.calls a2 t739 _ A56.out).mono ?_); rintro e w' ⟨rfl, ⟨nd, rfl⟩⟩; (try first | exact ⟨rfl, _, World.drewN_drewN _ _ _⟩ | exact ⟨rfl, _, Eq.trans (World.drewN_drewN _ _ _) (congrArg (World.drewN _) (Nat.add_assoc _ _ _))⟩)) | (go_at_call 20; (with_reducible refine (gimbalref02_Cmp.calls kj37 _ _ t724 _ _ t730 t740 _ ?side1 ?side2 ?side3 ?side4 A58.out).mono ?_); (case side1 => exact ks HO_12); (case side2 => exact (Kd.R_reads' HO_12.out).2.1); (case side3 => exact ks HO_13); (case side4 => exact (Kd.R_reads' HO_13.out).2.1); rintro e w65 ⟨rfl, hb⟩; have n0_ := Aside0.mk (Kd.R_below (kr HO_12) hb); have n1_ := Aside0.mk (Kd.R_below (kr HO_13) hb); have n2_ := Aside0.mk (Kd.R_below (kr HO738) hb); have n3_ := Aside0.mk (below_step bel hb); clear HO_12; clear HO_13; clear HO738; clear HB; have HO_12 := n0_; have HO_13 := n1_; have HO738 := n2_; have HB := n3_; clear n0_ n1_ n2_ n3_; (try clear hb)) | (go_at_call 63; (with_reducible refine (gimbalref02_Sub.calls kj37 _ _ t730 _ _ t724 t741 _ ?side1 ?side2 ?side3 ?side4 A60.out).mono ?_); (case side1 => exact ks HO_13); (case side2 => exact (Kd.R_reads' HO_13.out).2.1); (case side3 => exact ks HO_12); (case side4 => exact (Kd.R_reads' HO_12.out).2.1); rintro e w66 ⟨v742, rfl, ho0, hb⟩; have n0_ := Aside0.mk (Kd.R_elder' (kr HO_12) (Kd.R_base ho0) hb); have n1_ := Aside0.mk (Kd.R_elder' (kr HO_13) (Kd.R_base ho0) hb); have n2_ := Aside0.mk (Kd.R_elder' (kr HO738) (Kd.R_base ho0) hb); have n3_ := Aside0.mk (Kd.R_lower (Kd.R_new' (Kd.R_new' (Kd.R_new' ho0 (Kd.R_lt (kr HO_12))) (Kd.R_lt (kr HO_13))) (Kd.R_lt (kr HO738))) (below_size bel)); have n4_ := Aside0.mk (below_step bel hb); clear HO_12; clear HO_13; clear HO738; clear HB; have HO_12 := n0_; have HO_13 := n1_; have HO738 := n2_; have HO743 := n3_; have HB := n4_; clear n0_ n1_ n2_ n3_ n4_; (try clear hb); (try clear ho0); obtain ⟨Ao67, co67, eo67⟩ := Kd.R_slice HO743.out; subst eo67)))
               go_ret2
               exact ⟨er, bel⟩
              ·
               rw [if_neg c61] at H
               have c61b0 : ((t741.length : Int) == 0) = false := beq_eq_false_iff_ne.mpr c61
               have c61b1 : ((t741.length : Int) != 0) = true := bne_iff_ne.mpr c61
               have c61b2 : ¬ (t741 = []) := fun h_ => c61 (by rw [h_]; rfl)
               obtain ⟨⟨t744, t745⟩, A680, H⟩ := Option.bind_eq_some_iff.mp H
               (try dsimp -simprocs only at H)
               have A68 := Aside0.mk A680
               clear A680
               simp only [Option.some.injEq, Prod.mk.injEq] at H
               obtain ⟨rfl, rfl⟩ := H
               obtain ⟨Ao69, co69, eo69⟩ := Kd.R_slice HO_12.out
               subst eo69
               obtain ⟨Ao70, co70, eo70⟩ := Kd.R_slice HO_13.out
               subst eo70
               go_wp2_with (first | (go_at_call 62; (with_reducible refine (gimbalref02_Add.calls kj37 _ _ t724 _ _ t730 t736 _ ?side1 ?side2 ?side3 ?side4 A55.out).mono ?_); (case side1 => exact ks HO_12); (case side2 => exact (Kd.R_reads' HO_12.out).2.1); (case side3 => exact ks HO_13); (case side4 => exact (Kd.R_reads' HO_13.out).2.1); rintro e w71 ⟨v737, rfl, ho0, hb⟩; have n0_ := Aside0.mk (Kd.R_elder' (kr HO_12) (Kd.R_base ho0) hb); have n1_ := Aside0.mk (Kd.R_elder' (kr HO_13) (Kd.R_base ho0) hb); have n2_ := Aside0.mk (Kd.R_lower (Kd.R_new' (Kd.R_new' ho0 (Kd.R_lt (kr HO_12))) (Kd.R_lt (kr HO_13))) (below_size bel)); have n3_ := Aside0.mk (below_step bel hb); clear HO_12; clear HO_13; clear HB; have HO_12 := n0_; have HO_13 := n1_; have HO738 := n2_; have HB := n3_; clear n0_ n1_ n2_ n3_; (try clear hb); (try clear ho0)) | (go_at_call 44; (with_reducible refine (gimbalref04_Neg.calls a2 t739 _ A56.out).mono ?_); rintro e w' ⟨rfl, ⟨nd, rfl⟩⟩; (try first | exact ⟨rfl, _, World.drewN_drewN _ _ _⟩ | exact ⟨rfl, _, Eq.trans (World.drewN_drewN _ _ _) (congrArg (World.drewN _) (Nat.add_assoc _ _ _))⟩)) | (go_at_call 20; (with_reducible refine (gimbalref02_Cmp.calls kj37 _ _ t724 _ _ t730 t740 _ ?side1 ?side2 ?side3 ?side4 A58.out).mono ?_); (case side1 => exact ks HO_12); (case side2 => exact (Kd.R_reads' HO_12.out).2.1); (case side3 => exact ks HO_13); (case side4 => exact (Kd.R_reads' HO_13.out).2.1); rintro e w72 ⟨rfl, hb⟩; have n0_ := Aside0.mk (Kd.R_below (kr HO_12) hb); have n1_ := Aside0.mk (Kd.R_below (kr HO_13) hb); have n2_ := Aside0.mk (Kd.R_below (kr HO738) hb); have n3_ := Aside0.mk (below_step bel hb); clear HO_12; clear HO_13; clear HO738; clear HB; have HO_12 := n0_; have HO_13 := n1_; have HO738 := n2_; have HB := n3_; clear n0_ n1_ n2_ n3_; (try clear hb)) | (go_at_call 63; (with_reducible refine (gimbalref02_Sub.calls kj37 _ _ t730 _ _ t724 t741 _ ?side1 ?side2 ?side3 ?side4 A60.out).mono ?_); (case side1 => exact ks HO_13); (case side2 => exact (Kd.R_reads' HO_13.out).2.1); (case side3 => exact ks HO_12); (case side4 => exact (Kd.R_reads' HO_12.out).2.1); rintro e w73 ⟨v742, rfl, ho0, hb⟩; have n0_ := Aside0.mk (Kd.R_elder' (kr HO_12) (Kd.R_base ho0) hb); have n1_ := Aside0.mk (Kd.R_elder' (kr HO_13) (Kd.R_base ho0) hb); have n2_ := Aside0.mk (Kd.R_elder' (kr HO738) (Kd.R_base ho0) hb); have n3_ := Aside0.mk (Kd.R_lower (Kd.R_new' (Kd.R_new' (Kd.R_new' ho0 (Kd.R_lt (kr HO_12))) (Kd.R_lt (kr HO_13))) (Kd.R_lt (kr HO738))) (below_size bel)); have n4_ := Aside0.mk (below_step bel hb); clear HO_12; clear HO_13; clear HO738; clear HB; have HO_12 := n0_; have HO_13 := n1_; have HO738 := n2_; have HO743 := n3_; have HB := n4_; clear n0_ n1_ n2_ n3_ n4_; (try clear hb); (try clear ho0); obtain ⟨Ao74, co74, eo74⟩ := Kd.R_slice HO743.out; subst eo74) | (go_at_call 47; (with_reducible refine (gimbalref03_Round.calls kj37 (!x11_22) _ _ t741 (-2148) false t744 t745 _ ?side1 ?side2 A68.out).mono ?_); (case side1 => exact ks HO743); (case side2 => exact (Kd.R_reads' HO743.out).2.1); rintro e w75 ⟨rfl, hb⟩; have n0_ := Aside0.mk (Kd.R_below (kr HO_12) hb); have n1_ := Aside0.mk (Kd.R_below (kr HO_13) hb); have n2_ := Aside0.mk (Kd.R_below (kr HO738) hb); have n3_ := Aside0.mk (Kd.R_below (kr HO743) hb); have n4_ := Aside0.mk (below_step bel hb); clear HO_12; clear HO_13; clear HO738; clear HO743; clear HB; have HO_12 := n0_; have HO_13 := n1_; have HO738 := n2_; have HO743 := n3_; have HB := n4_; clear n0_ n1_ n2_ n3_ n4_; (try clear hb)) | ((with_reducible refine gate_dst (N := 15) rfl ?_); refine box_event ?hg (N := 15) ?hd (cs := #[.int .u64 0, .int .i64 0]) (t := 66) ?hr ?_; (case hd => rfl); (case hg => rfl); (case hr => first | (go_simp; done) | (go_simp; rfl)); intro gb746 hg w76 hbox hb; have n0_ := Aside0.mk (Kd.R_below (kr HO_12) hb); have n1_ := Aside0.mk (Kd.R_below (kr HO_13) hb); have n2_ := Aside0.mk (Kd.R_below (kr HO738) hb); have n3_ := Aside0.mk (Kd.R_below (kr HO743) hb); have n4_ := Aside0.mk (below_step bel hb); have n5_ := Aside0.mk (hbox); have n6_ := Aside0.mk ((by rw [hg]; exact (below_size bel) : w.heap.size ≤ gb746)); have n7_ := Aside0.mk ((by rw [hg]; exact (below_size bel) : w.heap.size ≤ gb746)); clear HO_12; clear HO_13; clear HO738; clear HO743; clear HB; have HO_12 := n0_; have HO_13 := n1_; have HO738 := n2_; have HO743 := n3_; have HB := n4_; have BK746 := n5_; have GW746 := n6_; have GE746 := n7_; clear n0_ n1_ n2_ n3_ n4_ n5_ n6_ n7_; clear hb hbox hg; have hcz77_0 : w76.cell? ⟨gb746, 0, none⟩ = some (.int .u64 0) := (blk_cell BK746.out 0).trans rfl; have hcz77_1 : w76.cell? ⟨gb746, 1, none⟩ = some (.int .i64 0) := (blk_cell BK746.out 1).trans rfl; have hfz77_0 := blk_frozen BK746.out 0; have hfz77_1 := blk_frozen BK746.out 1))
               repeat (go_quiet (first | (go_at_call 62; (with_reducible refine (gimbalref02_Add.calls kj37 _ _ t724 _ _ t730 t736 _ ?side1 ?side2 ?side3 ?side4 A55.out).mono ?_); (case side1 => exact ks HO_12); (case side2 => exact (Kd.R_reads' HO_12.out).2.1); (case side3 => exact ks HO_13); (case side4 => exact (Kd.R_reads' HO_13.out).2.1); rintro e w71 ⟨v737, rfl, ho0, hb⟩; have n0_ := Aside0.mk (Kd.R_elder' (kr HO_12) (Kd.R_base ho0) hb); have n1_ := Aside0.mk (Kd.R_elder' (kr HO_13) (Kd.R_base ho0) hb); have n2_ := Aside0.mk (Kd.R_lower (Kd.R_new' (Kd.R_new' ho0 (Kd.R_lt (kr HO_12))) (Kd.R_lt (kr HO_13))) (below_size bel)); have n3_ := Aside0.mk (below_step bel hb); clear HO_12; clear HO_13; clear HB; have HO_12 := n0_; have HO_13 := n1_; have HO738 := n2_; have HB := n3_; clear n0_ n1_ n2_ n3_; (try clear hb); (try clear ho0)) | (go_at_call 44; (with_reducible refine (gimbalref04_Neg.calls a2 t739 _ A56.out).mono ?_); rintro e w' ⟨rfl, ⟨nd, rfl⟩⟩; (try first | exact ⟨rfl, _, World.drewN_drewN _ _ _⟩ | exact ⟨rfl, _, Eq.trans (World.drewN_drewN _ _ _) (congrArg (World.drewN _) (Nat.add_assoc _ _ _))⟩)) | (go_at_call 20; (with_reducible refine (gimbalref02_Cmp.calls kj37 _ _ t724 _ _ t730 t740 _ ?side1 ?side2 ?side3 ?side4 A58.out).mono ?_); (case side1 => exact ks HO_12); (case side2 => exact (Kd.R_reads' HO_12.out).2.1); (case side3 => exact ks HO_13); (case side4 => exact (Kd.R_reads' HO_13.out).2.1); rintro e w72 ⟨rfl, hb⟩; have n0_ := Aside0.mk (Kd.R_below (kr HO_12) hb); have n1_ := Aside0.mk (Kd.R_below (kr HO_13) hb); have n2_ := Aside0.mk (Kd.R_below (kr HO738) hb); have n3_ := Aside0.mk (below_step bel hb); clear HO_12; clear HO_13; clear HO738; clear HB; have HO_12 := n0_; have HO_13 := n1_; have HO738 := n2_; have HB := n3_; clear n0_ n1_ n2_ n3_; (try clear hb)) | (go_at_call 63; (with_reducible refine (gimbalref02_Sub.calls kj37 _ _ t730 _ _ t724 t741 _ ?side1 ?side2 ?side3 ?side4 A60.out).mono ?_); (case side1 => exact ks HO_13); (case side2 => exact (Kd.R_reads' HO_13.out).2.1); (case side3 => exact ks HO_12); (case side4 => exact (Kd.R_reads' HO_12.out).2.1); rintro e w73 ⟨v742, rfl, ho0, hb⟩; have n0_ := Aside0.mk (Kd.R_elder' (kr HO_12) (Kd.R_base ho0) hb); have n1_ := Aside0.mk (Kd.R_elder' (kr HO_13) (Kd.R_base ho0) hb); have n2_ := Aside0.mk (Kd.R_elder' (kr HO738) (Kd.R_base ho0) hb); have n3_ := Aside0.mk (Kd.R_lower (Kd.R_new' (Kd.R_new' (Kd.R_new' ho0 (Kd.R_lt (kr HO_12))) (Kd.R_lt (kr HO_13))) (Kd.R_lt (kr HO738))) (below_size bel)); have n4_ := Aside0.mk (below_step bel hb); clear HO_12; clear HO_13; clear HO738; clear HB; have HO_12 := n0_; have HO_13 := n1_; have HO738 := n2_; have HO743 := n3_; have HB := n4_; clear n0_ n1_ n2_ n3_ n4_; (try clear hb); (try clear ho0); obtain ⟨Ao74, co74, eo74⟩ := Kd.R_slice HO743.out; subst eo74) | (go_at_call 47; (with_reducible refine (gimbalref03_Round.calls kj37 (!x11_22) _ _ t741 (-2148) false t744 t745 _ ?side1 ?side2 A68.out).mono ?_); (case side1 => exact ks HO743); (case side2 => exact (Kd.R_reads' HO743.out).2.1); rintro e w75 ⟨rfl, hb⟩; have n0_ := Aside0.mk (Kd.R_below (kr HO_12) hb); have n1_ := Aside0.mk (Kd.R_below (kr HO_13) hb); have n2_ := Aside0.mk (Kd.R_below (kr HO738) hb); have n3_ := Aside0.mk (Kd.R_below (kr HO743) hb); have n4_ := Aside0.mk (below_step bel hb); clear HO_12; clear HO_13; clear HO738; clear HO743; clear HB; have HO_12 := n0_; have HO_13 := n1_; have HO738 := n2_; have HO743 := n3_; have HB := n4_; clear n0_ n1_ n2_ n3_ n4_; (try clear hb)) | ((with_reducible refine gate_dst (N := 15) rfl ?_); refine box_event ?hg (N := 15) ?hd (cs := #[.int .u64 0, .int .i64 0]) (t := 66) ?hr ?_; (case hd => rfl); (case hg => rfl); (case hr => first | (go_simp; done) | (go_simp; rfl)); intro gb746 hg w76 hbox hb; have n0_ := Aside0.mk (Kd.R_below (kr HO_12) hb); have n1_ := Aside0.mk (Kd.R_below (kr HO_13) hb); have n2_ := Aside0.mk (Kd.R_below (kr HO738) hb); have n3_ := Aside0.mk (Kd.R_below (kr HO743) hb); have n4_ := Aside0.mk (below_step bel hb); have n5_ := Aside0.mk (hbox); have n6_ := Aside0.mk ((by rw [hg]; exact (below_size bel) : w.heap.size ≤ gb746)); have n7_ := Aside0.mk ((by rw [hg]; exact (below_size bel) : w.heap.size ≤ gb746)); clear HO_12; clear HO_13; clear HO738; clear HO743; clear HB; have HO_12 := n0_; have HO_13 := n1_; have HO738 := n2_; have HO743 := n3_; have HB := n4_; have BK746 := n5_; have GW746 := n6_; have GE746 := n7_; clear n0_ n1_ n2_ n3_ n4_ n5_ n6_ n7_; clear hb hbox hg; have hcz77_0 : w76.cell? ⟨gb746, 0, none⟩ = some (.int .u64 0) := (blk_cell BK746.out 0).trans rfl; have hcz77_1 : w76.cell? ⟨gb746, 1, none⟩ = some (.int .i64 0) := (blk_cell BK746.out 1).trans rfl; have hfz77_0 := blk_frozen BK746.out 0; have hfz77_1 := blk_frozen BK746.out 1)); try go_wp2_with (first | (go_at_call 62; (with_reducible refine (gimbalref02_Add.calls kj37 _ _ t724 _ _ t730 t736 _ ?side1 ?side2 ?side3 ?side4 A55.out).mono ?_); (case side1 => exact ks HO_12); (case side2 => exact (Kd.R_reads' HO_12.out).2.1); (case side3 => exact ks HO_13); (case side4 => exact (Kd.R_reads' HO_13.out).2.1); rintro e w71 ⟨v737, rfl, ho0, hb⟩; have n0_ := Aside0.mk (Kd.R_elder' (kr HO_12) (Kd.R_base ho0) hb); have n1_ := Aside0.mk (Kd.R_elder' (kr HO_13) (Kd.R_base ho0) hb); have n2_ := Aside0.mk (Kd.R_lower (Kd.R_new' (Kd.R_new' ho0 (Kd.R_lt (kr HO_12))) (Kd.R_lt (kr HO_13))) (below_size bel)); have n3_ := Aside0.mk (below_step bel hb); clear HO_12; clear HO_13; clear HB; have HO_12 := n0_; have HO_13 := n1_; have HO738 := n2_; have HB := n3_; clear n0_ n1_ n2_ n3_; (try clear hb); (try clear ho0)) | (go_at_call 44; (with_reducible refine (gimbalref04_Neg.calls a2 t739 _ A56.out).mono ?_); rintro e w' ⟨rfl, ⟨nd, rfl⟩⟩; (try first | exact ⟨rfl, _, World.drewN_drewN _ _ _⟩ | exact ⟨rfl, _, Eq.trans (World.drewN_drewN _ _ _) (congrArg (World.drewN _) (Nat.add_assoc _ _ _))⟩)) | (go_at_call 20; (with_reducible refine (gimbalref02_Cmp.calls kj37 _ _ t724 _ _ t730 t740 _ ?side1 ?side2 ?side3 ?side4 A58.out).mono ?_); (case side1 => exact ks HO_12); (case side2 => exact (Kd.R_reads' HO_12.out).2.1); (case side3 => exact ks HO_13); (case side4 => exact (Kd.R_reads' HO_13.out).2.1); rintro e w72 ⟨rfl, hb⟩; have n0_ := Aside0.mk (Kd.R_below (kr HO_12) hb); have n1_ := Aside0.mk (Kd.R_below (kr HO_13) hb); have n2_ := Aside0.mk (Kd.R_below (kr HO738) hb); have n3_ := Aside0.mk (below_step bel hb); clear HO_12; clear HO_13; clear HO738; clear HB; have HO_12 := n0_; have HO_13 := n1_; have HO738 := n2_; have HB := n3_; clear n0_ n1_ n2_ n3_; (try clear hb)) | (go_at_call 63; (with_reducible refine (gimbalref02_Sub.calls kj37 _ _ t730 _ _ t724 t741 _ ?side1 ?side2 ?side3 ?side4 A60.out).mono ?_); (case side1 => exact ks HO_13); (case side2 => exact (Kd.R_reads' HO_13.out).2.1); (case side3 => exact ks HO_12); (case side4 => exact (Kd.R_reads' HO_12.out).2.1); rintro e w73 ⟨v742, rfl, ho0, hb⟩; have n0_ := Aside0.mk (Kd.R_elder' (kr HO_12) (Kd.R_base ho0) hb); have n1_ := Aside0.mk (Kd.R_elder' (kr HO_13) (Kd.R_base ho0) hb); have n2_ := Aside0.mk (Kd.R_elder' (kr HO738) (Kd.R_base ho0) hb); have n3_ := Aside0.mk (Kd.R_lower (Kd.R_new' (Kd.R_new' (Kd.R_new' ho0 (Kd.R_lt (kr HO_12))) (Kd.R_lt (kr HO_13))) (Kd.R_lt (kr HO738))) (below_size bel)); have n4_ := Aside0.mk (below_step bel hb); clear HO_12; clear HO_13; clear HO738; clear HB; have HO_12 := n0_; have HO_13 := n1_; have HO738 := n2_; have HO743 := n3_; have HB := n4_; clear n0_ n1_ n2_ n3_ n4_; (try clear hb); (try clear ho0); obtain ⟨Ao74, co74, eo74⟩ := Kd.R_slice HO743.out; subst eo74) | (go_at_call 47; (with_reducible refine (gimbalref03_Round.calls kj37 (!x11_22) _ _ t741 (-2148) false t744 t745 _ ?side1 ?side2 A68.out).mono ?_); (case side1 => exact ks HO743); (case side2 => exact (Kd.R_reads' HO743.out).2.1); rintro e w75 ⟨rfl, hb⟩; have n0_ := Aside0.mk (Kd.R_below (kr HO_12) hb); have n1_ := Aside0.mk (Kd.R_below (kr HO_13) hb); have n2_ := Aside0.mk (Kd.R_below (kr HO738) hb); have n3_ := Aside0.mk (Kd.R_below (kr HO743) hb); have n4_ := Aside0.mk (below_step bel hb); clear HO_12; clear HO_13; clear HO738; clear HO743; clear HB; have HO_12 := n0_; have HO_13 := n1_; have HO738 := n2_; have HO743 := n3_; have HB := n4_; clear n0_ n1_ n2_ n3_ n4_; (try clear hb)) | ((with_reducible refine gate_dst (N := 15) rfl ?_); refine box_event ?hg (N := 15) ?hd (cs := #[.int .u64 0, .int .i64 0]) (t := 66) ?hr ?_; (case hd => rfl); (case hg => rfl); (case hr => first | (go_simp; done) | (go_simp; rfl)); intro gb746 hg w76 hbox hb; have n0_ := Aside0.mk (Kd.R_below (kr HO_12) hb); have n1_ := Aside0.mk (Kd.R_below (kr HO_13) hb); have n2_ := Aside0.mk (Kd.R_below (kr HO738) hb); have n3_ := Aside0.mk (Kd.R_below (kr HO743) hb); have n4_ := Aside0.mk (below_step bel hb); have n5_ := Aside0.mk (hbox); have n6_ := Aside0.mk ((by rw [hg]; exact (below_size bel) : w.heap.size ≤ gb746)); have n7_ := Aside0.mk ((by rw [hg]; exact (below_size bel) : w.heap.size ≤ gb746)); clear HO_12; clear HO_13; clear HO738; clear HO743; clear HB; have HO_12 := n0_; have HO_13 := n1_; have HO738 := n2_; have HO743 := n3_; have HB := n4_; have BK746 := n5_; have GW746 := n6_; have GE746 := n7_; clear n0_ n1_ n2_ n3_ n4_ n5_ n6_ n7_; clear hb hbox hg; have hcz77_0 : w76.cell? ⟨gb746, 0, none⟩ = some (.int .u64 0) := (blk_cell BK746.out 0).trans rfl; have hcz77_1 : w76.cell? ⟨gb746, 1, none⟩ = some (.int .i64 0) := (blk_cell BK746.out 1).trans rfl; have hfz77_0 := blk_frozen BK746.out 0; have hfz77_1 := blk_frozen BK746.out 1)))
               go_ret2
               exact ⟨er, bes⟩
             ·
              rw [if_neg c59] at H
              have c59b0 : decide (t740 < 0) = false := decide_eq_false c59
              clear c59
              obtain ⟨t747, A780, H⟩ := Option.bind_eq_some_iff.mp H
              (try dsimp -simprocs only at H)
              have A78 := Aside0.mk A780
              clear A780
              by_cases c79 : (t747.length : Int) = 0
              ·
               rw [if_pos c79] at H
               have c79b0 : ((t747.length : Int) == 0) = true := beq_iff_eq.mpr c79
               have c79b1 : ((t747.length : Int) != 0) = false := bne_eq_false_iff_eq.mpr c79
               clear c79
               simp only [Option.some.injEq, Prod.mk.injEq] at H
               obtain ⟨rfl, rfl⟩ := H
               obtain ⟨Ao80, co80, eo80⟩ := Kd.R_slice HO_12.out
               subst eo80
               obtain ⟨Ao81, co81, eo81⟩ := Kd.R_slice HO_13.out
               subst eo81
               go_wp2_with (first | (go_at_call 62; (with_reducible refine (gimbalref02_Add.calls kj37 _ _ t724 _ _ t730 t736 _ ?side1 ?side2 ?side3 ?side4 A55.out).mono ?_); (case side1 => exact ks HO_12); (case side2 => exact (Kd.R_reads' HO_12.out).2.1); (case side3 => exact ks HO_13); (case side4 => exact (Kd.R_reads' HO_13.out).2.1); rintro e w82 ⟨v737, rfl, ho0, hb⟩; have n0_ := Aside0.mk (Kd.R_elder' (kr HO_12) (Kd.R_base ho0) hb); have n1_ := Aside0.mk (Kd.R_elder' (kr HO_13) (Kd.R_base ho0) hb); have n2_ := Aside0.mk (Kd.R_lower (Kd.R_new' (Kd.R_new' ho0 (Kd.R_lt (kr HO_12))) (Kd.R_lt (kr HO_13))) (below_size bel)); have n3_ := Aside0.mk (below_step bel hb); clear HO_12; clear HO_13; clear HB; have HO_12 := n0_; have HO_13 := n1_; have HO738 := n2_; have HB := n3_; clear n0_ n1_ n2_ n3_; (try clear hb); (try clear ho0)) | (go_at_call 44; (with_reducible refine (gimbalref04_Neg.calls a2 t739 _ A56.out).mono ?_); rintro e w' ⟨rfl, ⟨nd, rfl⟩⟩; (try first | exact ⟨rfl, _, World.drewN_drewN _ _ _⟩ | exact ⟨rfl, _, Eq.trans (World.drewN_drewN _ _ _) (congrArg (World.drewN _) (Nat.add_assoc _ _ _))⟩)) | (go_at_call 20; (with_reducible refine (gimbalref02_Cmp.calls kj37 _ _ t724 _ _ t730 t740 _ ?side1 ?side2 ?side3 ?side4 A58.out).mono ?_); (case side1 => exact ks HO_12); (case side2 => exact (Kd.R_reads' HO_12.out).2.1); (case side3 => exact ks HO_13); (case side4 => exact (Kd.R_reads' HO_13.out).2.1); rintro e w83 ⟨rfl, hb⟩; have n0_ := Aside0.mk (Kd.R_below (kr HO_12) hb); have n1_ := Aside0.mk (Kd.R_below (kr HO_13) hb); have n2_ := Aside0.mk (Kd.R_below (kr HO738) hb); have n3_ := Aside0.mk (below_step bel hb); clear HO_12; clear HO_13; clear HO738; clear HB; have HO_12 := n0_; have HO_13 := n1_; have HO738 := n2_; have HB := n3_; clear n0_ n1_ n2_ n3_; (try clear hb)) | (go_at_call 63; (with_reducible refine (gimbalref02_Sub.calls kj37 _ _ t724 _ _ t730 t747 _ ?side1 ?side2 ?side3 ?side4 A78.out).mono ?_); (case side1 => exact ks HO_12); (case side2 => exact (Kd.R_reads' HO_12.out).2.1); (case side3 => exact ks HO_13); (case side4 => exact (Kd.R_reads' HO_13.out).2.1); rintro e w84 ⟨v748, rfl, ho0, hb⟩; have n0_ := Aside0.mk (Kd.R_elder' (kr HO_12) (Kd.R_base ho0) hb); have n1_ := Aside0.mk (Kd.R_elder' (kr HO_13) (Kd.R_base ho0) hb); have n2_ := Aside0.mk (Kd.R_elder' (kr HO738) (Kd.R_base ho0) hb); have n3_ := Aside0.mk (Kd.R_lower (Kd.R_new' (Kd.R_new' (Kd.R_new' ho0 (Kd.R_lt (kr HO_12))) (Kd.R_lt (kr HO_13))) (Kd.R_lt (kr HO738))) (below_size bel)); have n4_ := Aside0.mk (below_step bel hb); clear HO_12; clear HO_13; clear HO738; clear HB; have HO_12 := n0_; have HO_13 := n1_; have HO738 := n2_; have HO749 := n3_; have HB := n4_; clear n0_ n1_ n2_ n3_ n4_; (try clear hb); (try clear ho0); obtain ⟨Ao85, co85, eo85⟩ := Kd.R_slice HO749.out; subst eo85))
               repeat (go_quiet (first | (go_at_call 62; (with_reducible refine (gimbalref02_Add.calls kj37 _ _ t724 _ _ t730 t736 _ ?side1 ?side2 ?side3 ?side4 A55.out).mono ?_); (case side1 => exact ks HO_12); (case side2 => exact (Kd.R_reads' HO_12.out).2.1); (case side3 => exact ks HO_13); (case side4 => exact (Kd.R_reads' HO_13.out).2.1); rintro e w82 ⟨v737, rfl, ho0, hb⟩; have n0_ := Aside0.mk (Kd.R_elder' (kr HO_12) (Kd.R_base ho0) hb); have n1_ := Aside0.mk (Kd.R_elder' (kr HO_13) (Kd.R_base ho0) hb); have n2_ := Aside0.mk (Kd.R_lower (Kd.R_new' (Kd.R_new' ho0 (Kd.R_lt (kr HO_12))) (Kd.R_lt (kr HO_13))) (below_size bel)); have n3_ := Aside0.mk (below_step bel hb); clear HO_12; clear HO_13; clear HB; have HO_12 := n0_; have HO_13 := n1_; have HO738 := n2_; have HB := n3_; clear n0_ n1_ n2_ n3_; (try clear hb); (try clear ho0)) | (go_at_call 44; (with_reducible refine (gimbalref04_Neg.calls a2 t739 _ A56.out).mono ?_); rintro e w' ⟨rfl, ⟨nd, rfl⟩⟩; (try first | exact ⟨rfl, _, World.drewN_drewN _ _ _⟩ | exact ⟨rfl, _, Eq.trans (World.drewN_drewN _ _ _) (congrArg (World.drewN _) (Nat.add_assoc _ _ _))⟩)) | (go_at_call 20; (with_reducible refine (gimbalref02_Cmp.calls kj37 _ _ t724 _ _ t730 t740 _ ?side1 ?side2 ?side3 ?side4 A58.out).mono ?_); (case side1 => exact ks HO_12); (case side2 => exact (Kd.R_reads' HO_12.out).2.1); (case side3 => exact ks HO_13); (case side4 => exact (Kd.R_reads' HO_13.out).2.1); rintro e w83 ⟨rfl, hb⟩; have n0_ := Aside0.mk (Kd.R_below (kr HO_12) hb); have n1_ := Aside0.mk (Kd.R_below (kr HO_13) hb); have n2_ := Aside0.mk (Kd.R_below (kr HO738) hb); have n3_ := Aside0.mk (below_step bel hb); clear HO_12; clear HO_13; clear HO738; clear HB; have HO_12 := n0_; have HO_13 := n1_; have HO738 := n2_; have HB := n3_; clear n0_ n1_ n2_ n3_; (try clear hb)) | (go_at_call 63; (with_reducible refine (gimbalref02_Sub.calls kj37 _ _ t724 _ _ t730 t747 _ ?side1 ?side2 ?side3 ?side4 A78.out).mono ?_); (case side1 => exact ks HO_12); (case side2 => exact (Kd.R_reads' HO_12.out).2.1); (case side3 => exact ks HO_13); (case side4 => exact (Kd.R_reads' HO_13.out).2.1); rintro e w84 ⟨v748, rfl, ho0, hb⟩; have n0_ := Aside0.mk (Kd.R_elder' (kr HO_12) (Kd.R_base ho0) hb); have n1_ := Aside0.mk (Kd.R_elder' (kr HO_13) (Kd.R_base ho0) hb); have n2_ := Aside0.mk (Kd.R_elder' (kr HO738) (Kd.R_base ho0) hb); have n3_ := Aside0.mk (Kd.R_lower (Kd.R_new' (Kd.R_new' (Kd.R_new' ho0 (Kd.R_lt (kr HO_12))) (Kd.R_lt (kr HO_13))) (Kd.R_lt (kr HO738))) (below_size bel)); have n4_ := Aside0.mk (below_step bel hb); clear HO_12; clear HO_13; clear HO738; clear HB; have HO_12 := n0_; have HO_13 := n1_; have HO738 := n2_; have HO749 := n3_; have HB := n4_; clear n0_ n1_ n2_ n3_ n4_; (try clear hb); (try clear ho0); obtain ⟨Ao85, co85, eo85⟩ := Kd.R_slice HO749.out; subst eo85)); try go_wp2_with (first | (go_at_call 62; (with_reducible refine (gimbalref02_Add.calls kj37 _ _ t724 _ _ t730 t736 _ ?side1 ?side2 ?side3 ?side4 A55.out).mono ?_); (case side1 => exact ks HO_12); (case side2 => exact (Kd.R_reads' HO_12.out).2.1); (case side3 => exact ks HO_13); (case side4 => exact (Kd.R_reads' HO_13.out).2.1); rintro e w82 ⟨v737, rfl, ho0, hb⟩; have n0_ := Aside0.mk (Kd.R_elder' (kr HO_12) (Kd.R_base ho0) hb); have n1_ := Aside0.mk (Kd.R_elder' (kr HO_13) (Kd.R_base ho0) hb); have n2_ := Aside0.mk (Kd.R_lower (Kd.R_new' (Kd.R_new' ho0 (Kd.R_lt (kr HO_12))) (Kd.R_lt (kr HO_13))) (below_size bel)); have n3_ := Aside0.mk (below_step bel hb); clear HO_12; clear HO_13; clear HB; have HO_12 := n0_; have HO_13 := n1_; have HO738 := n2_; have HB := n3_; clear n0_ n1_ n2_ n3_; (try clear hb); (try clear ho0)) | (go_at_call 44; (with_reducible refine (gimbalref04_Neg.calls a2 t739 _ A56.out).mono ?_); rintro e w' ⟨rfl, ⟨nd, rfl⟩⟩; (try first | exact ⟨rfl, _, World.drewN_drewN _ _ _⟩ | exact ⟨rfl, _, Eq.trans (World.drewN_drewN _ _ _) (congrArg (World.drewN _) (Nat.add_assoc _ _ _))⟩)) | (go_at_call 20; (with_reducible refine (gimbalref02_Cmp.calls kj37 _ _ t724 _ _ t730 t740 _ ?side1 ?side2 ?side3 ?side4 A58.out).mono ?_); (case side1 => exact ks HO_12); (case side2 => exact (Kd.R_reads' HO_12.out).2.1); (case side3 => exact ks HO_13); (case side4 => exact (Kd.R_reads' HO_13.out).2.1); rintro e w83 ⟨rfl, hb⟩; have n0_ := Aside0.mk (Kd.R_below (kr HO_12) hb); have n1_ := Aside0.mk (Kd.R_below (kr HO_13) hb); have n2_ := Aside0.mk (Kd.R_below (kr HO738) hb); have n3_ := Aside0.mk (below_step bel hb); clear HO_12; clear HO_13; clear HO738; clear HB; have HO_12 := n0_; have HO_13 := n1_; have HO738 := n2_; have HB := n3_; clear n0_ n1_ n2_ n3_; (try clear hb)) | (go_at_call 63; (with_reducible refine (gimbalref02_Sub.calls kj37 _ _ t724 _ _ t730 t747 _ ?side1 ?side2 ?side3 ?side4 A78.out).mono ?_); (case side1 => exact ks HO_12); (case side2 => exact (Kd.R_reads' HO_12.out).2.1); (case side3 => exact ks HO_13); (case side4 => exact (Kd.R_reads' HO_13.out).2.1); rintro e w84 ⟨v748, rfl, ho0, hb⟩; have n0_ := Aside0.mk (Kd.R_elder' (kr HO_12) (Kd.R_base ho0) hb); have n1_ := Aside0.mk (Kd.R_elder' (kr HO_13) (Kd.R_base ho0) hb); have n2_ := Aside0.mk (Kd.R_elder' (kr HO738) (Kd.R_base ho0) hb); have n3_ := Aside0.mk (Kd.R_lower (Kd.R_new' (Kd.R_new' (Kd.R_new' ho0 (Kd.R_lt (kr HO_12))) (Kd.R_lt (kr HO_13))) (Kd.R_lt (kr HO738))) (below_size bel)); have n4_ := Aside0.mk (below_step bel hb); clear HO_12; clear HO_13; clear HO738; clear HB; have HO_12 := n0_; have HO_13 := n1_; have HO738 := n2_; have HO749 := n3_; have HB := n4_; clear n0_ n1_ n2_ n3_ n4_; (try clear hb); (try clear ho0); obtain ⟨Ao85, co85, eo85⟩ := Kd.R_slice HO749.out; subst eo85)))
               go_ret2
               exact ⟨er, bel⟩
              ·
               rw [if_neg c79] at H
               have c79b0 : ((t747.length : Int) == 0) = false := beq_eq_false_iff_ne.mpr c79
               have c79b1 : ((t747.length : Int) != 0) = true := bne_iff_ne.mpr c79
               have c79b2 : ¬ (t747 = []) := fun h_ => c79 (by rw [h_]; rfl)
               obtain ⟨⟨t750, t751⟩, A860, H⟩ := Option.bind_eq_some_iff.mp H
               (try dsimp -simprocs only at H)
               have A86 := Aside0.mk A860
               clear A860
               simp only [Option.some.injEq, Prod.mk.injEq] at H
               obtain ⟨rfl, rfl⟩ := H
               obtain ⟨Ao87, co87, eo87⟩ := Kd.R_slice HO_12.out
               subst eo87
               obtain ⟨Ao88, co88, eo88⟩ := Kd.R_slice HO_13.out
               subst eo88
               go_wp2_with (first | (go_at_call 62; (with_reducible refine (gimbalref02_Add.calls kj37 _ _ t724 _ _ t730 t736 _ ?side1 ?side2 ?side3 ?side4 A55.out).mono ?_); (case side1 => exact ks HO_12); (case side2 => exact (Kd.R_reads' HO_12.out).2.1); (case side3 => exact ks HO_13); (case side4 => exact (Kd.R_reads' HO_13.out).2.1); rintro e w89 ⟨v737, rfl, ho0, hb⟩; have n0_ := Aside0.mk (Kd.R_elder' (kr HO_12) (Kd.R_base ho0) hb); have n1_ := Aside0.mk (Kd.R_elder' (kr HO_13) (Kd.R_base ho0) hb); have n2_ := Aside0.mk (Kd.R_lower (Kd.R_new' (Kd.R_new' ho0 (Kd.R_lt (kr HO_12))) (Kd.R_lt (kr HO_13))) (below_size bel)); have n3_ := Aside0.mk (below_step bel hb); clear HO_12; clear HO_13; clear HB; have HO_12 := n0_; have HO_13 := n1_; have HO738 := n2_; have HB := n3_; clear n0_ n1_ n2_ n3_; (try clear hb); (try clear ho0)) | (go_at_call 44; (with_reducible refine (gimbalref04_Neg.calls a2 t739 _ A56.out).mono ?_); rintro e w' ⟨rfl, ⟨nd, rfl⟩⟩; (try first | exact ⟨rfl, _, World.drewN_drewN _ _ _⟩ | exact ⟨rfl, _, Eq.trans (World.drewN_drewN _ _ _) (congrArg (World.drewN _) (Nat.add_assoc _ _ _))⟩)) | (go_at_call 20; (with_reducible refine (gimbalref02_Cmp.calls kj37 _ _ t724 _ _ t730 t740 _ ?side1 ?side2 ?side3 ?side4 A58.out).mono ?_); (case side1 => exact ks HO_12); (case side2 => exact (Kd.R_reads' HO_12.out).2.1); (case side3 => exact ks HO_13); (case side4 => exact (Kd.R_reads' HO_13.out).2.1); rintro e w90 ⟨rfl, hb⟩; have n0_ := Aside0.mk (Kd.R_below (kr HO_12) hb); have n1_ := Aside0.mk (Kd.R_below (kr HO_13) hb); have n2_ := Aside0.mk (Kd.R_below (kr HO738) hb); have n3_ := Aside0.mk (below_step bel hb); clear HO_12; clear HO_13; clear HO738; clear HB; have HO_12 := n0_; have HO_13 := n1_; have HO738 := n2_; have HB := n3_; clear n0_ n1_ n2_ n3_; (try clear hb)) | (go_at_call 63; (with_reducible refine (gimbalref02_Sub.calls kj37 _ _ t724 _ _ t730 t747 _ ?side1 ?side2 ?side3 ?side4 A78.out).mono ?_); (case side1 => exact ks HO_12); (case side2 => exact (Kd.R_reads' HO_12.out).2.1); (case side3 => exact ks HO_13); (case side4 => exact (Kd.R_reads' HO_13.out).2.1); rintro e w91 ⟨v748, rfl, ho0, hb⟩; have n0_ := Aside0.mk (Kd.R_elder' (kr HO_12) (Kd.R_base ho0) hb); have n1_ := Aside0.mk (Kd.R_elder' (kr HO_13) (Kd.R_base ho0) hb); have n2_ := Aside0.mk (Kd.R_elder' (kr HO738) (Kd.R_base ho0) hb); have n3_ := Aside0.mk (Kd.R_lower (Kd.R_new' (Kd.R_new' (Kd.R_new' ho0 (Kd.R_lt (kr HO_12))) (Kd.R_lt (kr HO_13))) (Kd.R_lt (kr HO738))) (below_size bel)); have n4_ := Aside0.mk (below_step bel hb); clear HO_12; clear HO_13; clear HO738; clear HB; have HO_12 := n0_; have HO_13 := n1_; have HO738 := n2_; have HO749 := n3_; have HB := n4_; clear n0_ n1_ n2_ n3_ n4_; (try clear hb); (try clear ho0); obtain ⟨Ao92, co92, eo92⟩ := Kd.R_slice HO749.out; subst eo92) | (go_at_call 47; (with_reducible refine (gimbalref03_Round.calls kj37 x11_22 _ _ t747 (-2148) false t750 t751 _ ?side1 ?side2 A86.out).mono ?_); (case side1 => exact ks HO749); (case side2 => exact (Kd.R_reads' HO749.out).2.1); rintro e w93 ⟨rfl, hb⟩; have n0_ := Aside0.mk (Kd.R_below (kr HO_12) hb); have n1_ := Aside0.mk (Kd.R_below (kr HO_13) hb); have n2_ := Aside0.mk (Kd.R_below (kr HO738) hb); have n3_ := Aside0.mk (Kd.R_below (kr HO749) hb); have n4_ := Aside0.mk (below_step bel hb); clear HO_12; clear HO_13; clear HO738; clear HO749; clear HB; have HO_12 := n0_; have HO_13 := n1_; have HO738 := n2_; have HO749 := n3_; have HB := n4_; clear n0_ n1_ n2_ n3_ n4_; (try clear hb)) | ((with_reducible refine gate_dst (N := 15) rfl ?_); refine box_event ?hg (N := 15) ?hd (cs := #[.int .u64 0, .int .i64 0]) (t := 66) ?hr ?_; (case hd => rfl); (case hg => rfl); (case hr => first | (go_simp; done) | (go_simp; rfl)); intro gb752 hg w94 hbox hb; have n0_ := Aside0.mk (Kd.R_below (kr HO_12) hb); have n1_ := Aside0.mk (Kd.R_below (kr HO_13) hb); have n2_ := Aside0.mk (Kd.R_below (kr HO738) hb); have n3_ := Aside0.mk (Kd.R_below (kr HO749) hb); have n4_ := Aside0.mk (below_step bel hb); have n5_ := Aside0.mk (hbox); have n6_ := Aside0.mk ((by rw [hg]; exact (below_size bel) : w.heap.size ≤ gb752)); have n7_ := Aside0.mk ((by rw [hg]; exact (below_size bel) : w.heap.size ≤ gb752)); clear HO_12; clear HO_13; clear HO738; clear HO749; clear HB; have HO_12 := n0_; have HO_13 := n1_; have HO738 := n2_; have HO749 := n3_; have HB := n4_; have BK752 := n5_; have GW752 := n6_; have GE752 := n7_; clear n0_ n1_ n2_ n3_ n4_ n5_ n6_ n7_; clear hb hbox hg; have hcz95_0 : w94.cell? ⟨gb752, 0, none⟩ = some (.int .u64 0) := (blk_cell BK752.out 0).trans rfl; have hcz95_1 : w94.cell? ⟨gb752, 1, none⟩ = some (.int .i64 0) := (blk_cell BK752.out 1).trans rfl; have hfz95_0 := blk_frozen BK752.out 0; have hfz95_1 := blk_frozen BK752.out 1))
               repeat (go_quiet (first | (go_at_call 62; (with_reducible refine (gimbalref02_Add.calls kj37 _ _ t724 _ _ t730 t736 _ ?side1 ?side2 ?side3 ?side4 A55.out).mono ?_); (case side1 => exact ks HO_12); (case side2 => exact (Kd.R_reads' HO_12.out).2.1); (case side3 => exact ks HO_13); (case side4 => exact (Kd.R_reads' HO_13.out).2.1); rintro e w89 ⟨v737, rfl, ho0, hb⟩; have n0_ := Aside0.mk (Kd.R_elder' (kr HO_12) (Kd.R_base ho0) hb); have n1_ := Aside0.mk (Kd.R_elder' (kr HO_13) (Kd.R_base ho0) hb); have n2_ := Aside0.mk (Kd.R_lower (Kd.R_new' (Kd.R_new' ho0 (Kd.R_lt (kr HO_12))) (Kd.R_lt (kr HO_13))) (below_size bel)); have n3_ := Aside0.mk (below_step bel hb); clear HO_12; clear HO_13; clear HB; have HO_12 := n0_; have HO_13 := n1_; have HO738 := n2_; have HB := n3_; clear n0_ n1_ n2_ n3_; (try clear hb); (try clear ho0)) | (go_at_call 44; (with_reducible refine (gimbalref04_Neg.calls a2 t739 _ A56.out).mono ?_); rintro e w' ⟨rfl, ⟨nd, rfl⟩⟩; (try first | exact ⟨rfl, _, World.drewN_drewN _ _ _⟩ | exact ⟨rfl, _, Eq.trans (World.drewN_drewN _ _ _) (congrArg (World.drewN _) (Nat.add_assoc _ _ _))⟩)) | (go_at_call 20; (with_reducible refine (gimbalref02_Cmp.calls kj37 _ _ t724 _ _ t730 t740 _ ?side1 ?side2 ?side3 ?side4 A58.out).mono ?_); (case side1 => exact ks HO_12); (case side2 => exact (Kd.R_reads' HO_12.out).2.1); (case side3 => exact ks HO_13); (case side4 => exact (Kd.R_reads' HO_13.out).2.1); rintro e w90 ⟨rfl, hb⟩; have n0_ := Aside0.mk (Kd.R_below (kr HO_12) hb); have n1_ := Aside0.mk (Kd.R_below (kr HO_13) hb); have n2_ := Aside0.mk (Kd.R_below (kr HO738) hb); have n3_ := Aside0.mk (below_step bel hb); clear HO_12; clear HO_13; clear HO738; clear HB; have HO_12 := n0_; have HO_13 := n1_; have HO738 := n2_; have HB := n3_; clear n0_ n1_ n2_ n3_; (try clear hb)) | (go_at_call 63; (with_reducible refine (gimbalref02_Sub.calls kj37 _ _ t724 _ _ t730 t747 _ ?side1 ?side2 ?side3 ?side4 A78.out).mono ?_); (case side1 => exact ks HO_12); (case side2 => exact (Kd.R_reads' HO_12.out).2.1); (case side3 => exact ks HO_13); (case side4 => exact (Kd.R_reads' HO_13.out).2.1); rintro e w91 ⟨v748, rfl, ho0, hb⟩; have n0_ := Aside0.mk (Kd.R_elder' (kr HO_12) (Kd.R_base ho0) hb); have n1_ := Aside0.mk (Kd.R_elder' (kr HO_13) (Kd.R_base ho0) hb); have n2_ := Aside0.mk (Kd.R_elder' (kr HO738) (Kd.R_base ho0) hb); have n3_ := Aside0.mk (Kd.R_lower (Kd.R_new' (Kd.R_new' (Kd.R_new' ho0 (Kd.R_lt (kr HO_12))) (Kd.R_lt (kr HO_13))) (Kd.R_lt (kr HO738))) (below_size bel)); have n4_ := Aside0.mk (below_step bel hb); clear HO_12; clear HO_13; clear HO738; clear HB; have HO_12 := n0_; have HO_13 := n1_; have HO738 := n2_; have HO749 := n3_; have HB := n4_; clear n0_ n1_ n2_ n3_ n4_; (try clear hb); (try clear ho0); obtain ⟨Ao92, co92, eo92⟩ := Kd.R_slice HO749.out; subst eo92) | (go_at_call 47; (with_reducible refine (gimbalref03_Round.calls kj37 x11_22 _ _ t747 (-2148) false t750 t751 _ ?side1 ?side2 A86.out).mono ?_); (case side1 => exact ks HO749); (case side2 => exact (Kd.R_reads' HO749.out).2.1); rintro e w93 ⟨rfl, hb⟩; have n0_ := Aside0.mk (Kd.R_below (kr HO_12) hb); have n1_ := Aside0.mk (Kd.R_below (kr HO_13) hb); have n2_ := Aside0.mk (Kd.R_below (kr HO738) hb); have n3_ := Aside0.mk (Kd.R_below (kr HO749) hb); have n4_ := Aside0.mk (below_step bel hb); clear HO_12; clear HO_13; clear HO738; clear HO749; clear HB; have HO_12 := n0_; have HO_13 := n1_; have HO738 := n2_; have HO749 := n3_; have HB := n4_; clear n0_ n1_ n2_ n3_ n4_; (try clear hb)) | ((with_reducible refine gate_dst (N := 15) rfl ?_); refine box_event ?hg (N := 15) ?hd (cs := #[.int .u64 0, .int .i64 0]) (t := 66) ?hr ?_; (case hd => rfl); (case hg => rfl); (case hr => first | (go_simp; done) | (go_simp; rfl)); intro gb752 hg w94 hbox hb; have n0_ := Aside0.mk (Kd.R_below (kr HO_12) hb); have n1_ := Aside0.mk (Kd.R_below (kr HO_13) hb); have n2_ := Aside0.mk (Kd.R_below (kr HO738) hb); have n3_ := Aside0.mk (Kd.R_below (kr HO749) hb); have n4_ := Aside0.mk (below_step bel hb); have n5_ := Aside0.mk (hbox); have n6_ := Aside0.mk ((by rw [hg]; exact (below_size bel) : w.heap.size ≤ gb752)); have n7_ := Aside0.mk ((by rw [hg]; exact (below_size bel) : w.heap.size ≤ gb752)); clear HO_12; clear HO_13; clear HO738; clear HO749; clear HB; have HO_12 := n0_; have HO_13 := n1_; have HO738 := n2_; have HO749 := n3_; have HB := n4_; have BK752 := n5_; have GW752 := n6_; have GE752 := n7_; clear n0_ n1_ n2_ n3_ n4_ n5_ n6_ n7_; clear hb hbox hg; have hcz95_0 : w94.cell? ⟨gb752, 0, none⟩ = some (.int .u64 0) := (blk_cell BK752.out 0).trans rfl; have hcz95_1 : w94.cell? ⟨gb752, 1, none⟩ = some (.int .i64 0) := (blk_cell BK752.out 1).trans rfl; have hfz95_0 := blk_frozen BK752.out 0; have hfz95_1 := blk_frozen BK752.out 1)); try go_wp2_with (first | (go_at_call 62; (with_reducible refine (gimbalref02_Add.calls kj37 _ _ t724 _ _ t730 t736 _ ?side1 ?side2 ?side3 ?side4 A55.out).mono ?_); (case side1 => exact ks HO_12); (case side2 => exact (Kd.R_reads' HO_12.out).2.1); (case side3 => exact ks HO_13); (case side4 => exact (Kd.R_reads' HO_13.out).2.1); rintro e w89 ⟨v737, rfl, ho0, hb⟩; have n0_ := Aside0.mk (Kd.R_elder' (kr HO_12) (Kd.R_base ho0) hb); have n1_ := Aside0.mk (Kd.R_elder' (kr HO_13) (Kd.R_base ho0) hb); have n2_ := Aside0.mk (Kd.R_lower (Kd.R_new' (Kd.R_new' ho0 (Kd.R_lt (kr HO_12))) (Kd.R_lt (kr HO_13))) (below_size bel)); have n3_ := Aside0.mk (below_step bel hb); clear HO_12; clear HO_13; clear HB; have HO_12 := n0_; have HO_13 := n1_; have HO738 := n2_; have HB := n3_; clear n0_ n1_ n2_ n3_; (try clear hb); (try clear ho0)) | (go_at_call 44; (with_reducible refine (gimbalref04_Neg.calls a2 t739 _ A56.out).mono ?_); rintro e w' ⟨rfl, ⟨nd, rfl⟩⟩; (try first | exact ⟨rfl, _, World.drewN_drewN _ _ _⟩ | exact ⟨rfl, _, Eq.trans (World.drewN_drewN _ _ _) (congrArg (World.drewN _) (Nat.add_assoc _ _ _))⟩)) | (go_at_call 20; (with_reducible refine (gimbalref02_Cmp.calls kj37 _ _ t724 _ _ t730 t740 _ ?side1 ?side2 ?side3 ?side4 A58.out).mono ?_); (case side1 => exact ks HO_12); (case side2 => exact (Kd.R_reads' HO_12.out).2.1); (case side3 => exact ks HO_13); (case side4 => exact (Kd.R_reads' HO_13.out).2.1); rintro e w90 ⟨rfl, hb⟩; have n0_ := Aside0.mk (Kd.R_below (kr HO_12) hb); have n1_ := Aside0.mk (Kd.R_below (kr HO_13) hb); have n2_ := Aside0.mk (Kd.R_below (kr HO738) hb); have n3_ := Aside0.mk (below_step bel hb); clear HO_12; clear HO_13; clear HO738; clear HB; have HO_12 := n0_; have HO_13 := n1_; have HO738 := n2_; have HB := n3_; clear n0_ n1_ n2_ n3_; (try clear hb)) | (go_at_call 63; (with_reducible refine (gimbalref02_Sub.calls kj37 _ _ t724 _ _ t730 t747 _ ?side1 ?side2 ?side3 ?side4 A78.out).mono ?_); (case side1 => exact ks HO_12); (case side2 => exact (Kd.R_reads' HO_12.out).2.1); (case side3 => exact ks HO_13); (case side4 => exact (Kd.R_reads' HO_13.out).2.1); rintro e w91 ⟨v748, rfl, ho0, hb⟩; have n0_ := Aside0.mk (Kd.R_elder' (kr HO_12) (Kd.R_base ho0) hb); have n1_ := Aside0.mk (Kd.R_elder' (kr HO_13) (Kd.R_base ho0) hb); have n2_ := Aside0.mk (Kd.R_elder' (kr HO738) (Kd.R_base ho0) hb); have n3_ := Aside0.mk (Kd.R_lower (Kd.R_new' (Kd.R_new' (Kd.R_new' ho0 (Kd.R_lt (kr HO_12))) (Kd.R_lt (kr HO_13))) (Kd.R_lt (kr HO738))) (below_size bel)); have n4_ := Aside0.mk (below_step bel hb); clear HO_12; clear HO_13; clear HO738; clear HB; have HO_12 := n0_; have HO_13 := n1_; have HO738 := n2_; have HO749 := n3_; have HB := n4_; clear n0_ n1_ n2_ n3_ n4_; (try clear hb); (try clear ho0); obtain ⟨Ao92, co92, eo92⟩ := Kd.R_slice HO749.out; subst eo92) | (go_at_call 47; (with_reducible refine (gimbalref03_Round.calls kj37 x11_22 _ _ t747 (-2148) false t750 t751 _ ?side1 ?side2 A86.out).mono ?_); (case side1 => exact ks HO749); (case side2 => exact (Kd.R_reads' HO749.out).2.1); rintro e w93 ⟨rfl, hb⟩; have n0_ := Aside0.mk (Kd.R_below (kr HO_12) hb); have n1_ := Aside0.mk (Kd.R_below (kr HO_13) hb); have n2_ := Aside0.mk (Kd.R_below (kr HO738) hb); have n3_ := Aside0.mk (Kd.R_below (kr HO749) hb); have n4_ := Aside0.mk (below_step bel hb); clear HO_12; clear HO_13; clear HO738; clear HO749; clear HB; have HO_12 := n0_; have HO_13 := n1_; have HO738 := n2_; have HO749 := n3_; have HB := n4_; clear n0_ n1_ n2_ n3_ n4_; (try clear hb)) | ((with_reducible refine gate_dst (N := 15) rfl ?_); refine box_event ?hg (N := 15) ?hd (cs := #[.int .u64 0, .int .i64 0]) (t := 66) ?hr ?_; (case hd => rfl); (case hg => rfl); (case hr => first | (go_simp; done) | (go_simp; rfl)); intro gb752 hg w94 hbox hb; have n0_ := Aside0.mk (Kd.R_below (kr HO_12) hb); have n1_ := Aside0.mk (Kd.R_below (kr HO_13) hb); have n2_ := Aside0.mk (Kd.R_below (kr HO738) hb); have n3_ := Aside0.mk (Kd.R_below (kr HO749) hb); have n4_ := Aside0.mk (below_step bel hb); have n5_ := Aside0.mk (hbox); have n6_ := Aside0.mk ((by rw [hg]; exact (below_size bel) : w.heap.size ≤ gb752)); have n7_ := Aside0.mk ((by rw [hg]; exact (below_size bel) : w.heap.size ≤ gb752)); clear HO_12; clear HO_13; clear HO738; clear HO749; clear HB; have HO_12 := n0_; have HO_13 := n1_; have HO738 := n2_; have HO749 := n3_; have HB := n4_; have BK752 := n5_; have GW752 := n6_; have GE752 := n7_; clear n0_ n1_ n2_ n3_ n4_ n5_ n6_ n7_; clear hb hbox hg; have hcz95_0 : w94.cell? ⟨gb752, 0, none⟩ = some (.int .u64 0) := (blk_cell BK752.out 0).trans rfl; have hcz95_1 : w94.cell? ⟨gb752, 1, none⟩ = some (.int .i64 0) := (blk_cell BK752.out 1).trans rfl; have hfz95_0 := blk_frozen BK752.out 0; have hfz95_1 := blk_frozen BK752.out 1)))
               go_ret2
               exact ⟨er, bes⟩
            ·
             rw [if_neg c57] at H
             have c57b0 : (x11_22 != t739) = false := by simpa using c57
             (try (have c57b1 : decide (x11_22 = t739) = true := by simpa using c57))
             (try (have c57b2 : (x11_22 == t739) = true := by simpa using c57))
             clear c57
             obtain ⟨⟨t753, t754⟩, A960, H⟩ := Option.bind_eq_some_iff.mp H
             (try dsimp -simprocs only at H)
             have A96 := Aside0.mk A960
             clear A960
             simp only [Option.some.injEq, Prod.mk.injEq] at H
             obtain ⟨rfl, rfl⟩ := H
             obtain ⟨Ao97, co97, eo97⟩ := Kd.R_slice HO_12.out
             subst eo97
             obtain ⟨Ao98, co98, eo98⟩ := Kd.R_slice HO_13.out
             subst eo98
             go_wp2_with (first | (go_at_call 62; (with_reducible refine (gimbalref02_Add.calls kj37 _ _ t724 _ _ t730 t736 _ ?side1 ?side2 ?side3 ?side4 A55.out).mono ?_); (case side1 => exact ks HO_12); (case side2 => exact (Kd.R_reads' HO_12.out).2.1); (case side3 => exact ks HO_13); (case side4 => exact (Kd.R_reads' HO_13.out).2.1); rintro e w99 ⟨v737, rfl, ho0, hb⟩; have n0_ := Aside0.mk (Kd.R_elder' (kr HO_12) (Kd.R_base ho0) hb); have n1_ := Aside0.mk (Kd.R_elder' (kr HO_13) (Kd.R_base ho0) hb); have n2_ := Aside0.mk (Kd.R_lower (Kd.R_new' (Kd.R_new' ho0 (Kd.R_lt (kr HO_12))) (Kd.R_lt (kr HO_13))) (below_size bel)); have n3_ := Aside0.mk (below_step bel hb); clear HO_12; clear HO_13; clear HB; have HO_12 := n0_; have HO_13 := n1_; have HO738 := n2_; have HB := n3_; clear n0_ n1_ n2_ n3_; (try clear hb); (try clear ho0)) | (go_at_call 44; (with_reducible refine (gimbalref04_Neg.calls a2 t739 _ A56.out).mono ?_); rintro e w' ⟨rfl, ⟨nd, rfl⟩⟩; (try first | exact ⟨rfl, _, World.drewN_drewN _ _ _⟩ | exact ⟨rfl, _, Eq.trans (World.drewN_drewN _ _ _) (congrArg (World.drewN _) (Nat.add_assoc _ _ _))⟩); obtain ⟨Ao100, co100, eo100⟩ := Kd.R_slice HO738.out; subst eo100) | (go_at_call 47; (with_reducible refine (gimbalref03_Round.calls kj37 x11_22 _ _ t736 (-2148) false t753 t754 _ ?side1 ?side2 A96.out).mono ?_); (case side1 => exact ks HO738); (case side2 => exact (Kd.R_reads' HO738.out).2.1); rintro e w101 ⟨rfl, hb⟩; have n0_ := Aside0.mk (Kd.R_below (kr HO_12) hb); have n1_ := Aside0.mk (Kd.R_below (kr HO_13) hb); have n2_ := Aside0.mk (Kd.R_below (kr HO738) hb); have n3_ := Aside0.mk (below_step bel hb); clear HO_12; clear HO_13; clear HO738; clear HB; have HO_12 := n0_; have HO_13 := n1_; have HO738 := n2_; have HB := n3_; clear n0_ n1_ n2_ n3_; (try clear hb)) | ((with_reducible refine gate_dst (N := 15) rfl ?_); refine box_event ?hg (N := 15) ?hd (cs := #[.int .u64 0, .int .i64 0]) (t := 66) ?hr ?_; (case hd => rfl); (case hg => rfl); (case hr => first | (go_simp; done) | (go_simp; rfl)); intro gb755 hg w102 hbox hb; have n0_ := Aside0.mk (Kd.R_below (kr HO_12) hb); have n1_ := Aside0.mk (Kd.R_below (kr HO_13) hb); have n2_ := Aside0.mk (Kd.R_below (kr HO738) hb); have n3_ := Aside0.mk (below_step bel hb); have n4_ := Aside0.mk (hbox); have n5_ := Aside0.mk ((by rw [hg]; exact (below_size bel) : w.heap.size ≤ gb755)); have n6_ := Aside0.mk ((by rw [hg]; exact (below_size bel) : w.heap.size ≤ gb755)); clear HO_12; clear HO_13; clear HO738; clear HB; have HO_12 := n0_; have HO_13 := n1_; have HO738 := n2_; have HB := n3_; have BK755 := n4_; have GW755 := n5_; have GE755 := n6_; clear n0_ n1_ n2_ n3_ n4_ n5_ n6_; clear hb hbox hg; have hcz103_0 : w102.cell? ⟨gb755, 0, none⟩ = some (.int .u64 0) := (blk_cell BK755.out 0).trans rfl; have hcz103_1 : w102.cell? ⟨gb755, 1, none⟩ = some (.int .i64 0) := (blk_cell BK755.out 1).trans rfl; have hfz103_0 := blk_frozen BK755.out 0; have hfz103_1 := blk_frozen BK755.out 1))
             repeat (go_quiet (first | (go_at_call 62; (with_reducible refine (gimbalref02_Add.calls kj37 _ _ t724 _ _ t730 t736 _ ?side1 ?side2 ?side3 ?side4 A55.out).mono ?_); (case side1 => exact ks HO_12); (case side2 => exact (Kd.R_reads' HO_12.out).2.1); (case side3 => exact ks HO_13); (case side4 => exact (Kd.R_reads' HO_13.out).2.1); rintro e w99 ⟨v737, rfl, ho0, hb⟩; have n0_ := Aside0.mk (Kd.R_elder' (kr HO_12) (Kd.R_base ho0) hb); have n1_ := Aside0.mk (Kd.R_elder' (kr HO_13) (Kd.R_base ho0) hb); have n2_ := Aside0.mk (Kd.R_lower (Kd.R_new' (Kd.R_new' ho0 (Kd.R_lt (kr HO_12))) (Kd.R_lt (kr HO_13))) (below_size bel)); have n3_ := Aside0.mk (below_step bel hb); clear HO_12; clear HO_13; clear HB; have HO_12 := n0_; have HO_13 := n1_; have HO738 := n2_; have HB := n3_; clear n0_ n1_ n2_ n3_; (try clear hb); (try clear ho0)) | (go_at_call 44; (with_reducible refine (gimbalref04_Neg.calls a2 t739 _ A56.out).mono ?_); rintro e w' ⟨rfl, ⟨nd, rfl⟩⟩; (try first | exact ⟨rfl, _, World.drewN_drewN _ _ _⟩ | exact ⟨rfl, _, Eq.trans (World.drewN_drewN _ _ _) (congrArg (World.drewN _) (Nat.add_assoc _ _ _))⟩); obtain ⟨Ao100, co100, eo100⟩ := Kd.R_slice HO738.out; subst eo100) | (go_at_call 47; (with_reducible refine (gimbalref03_Round.calls kj37 x11_22 _ _ t736 (-2148) false t753 t754 _ ?side1 ?side2 A96.out).mono ?_); (case side1 => exact ks HO738); (case side2 => exact (Kd.R_reads' HO738.out).2.1); rintro e w101 ⟨rfl, hb⟩; have n0_ := Aside0.mk (Kd.R_below (kr HO_12) hb); have n1_ := Aside0.mk (Kd.R_below (kr HO_13) hb); have n2_ := Aside0.mk (Kd.R_below (kr HO738) hb); have n3_ := Aside0.mk (below_step bel hb); clear HO_12; clear HO_13; clear HO738; clear HB; have HO_12 := n0_; have HO_13 := n1_; have HO738 := n2_; have HB := n3_; clear n0_ n1_ n2_ n3_; (try clear hb)) | ((with_reducible refine gate_dst (N := 15) rfl ?_); refine box_event ?hg (N := 15) ?hd (cs := #[.int .u64 0, .int .i64 0]) (t := 66) ?hr ?_; (case hd => rfl); (case hg => rfl); (case hr => first | (go_simp; done) | (go_simp; rfl)); intro gb755 hg w102 hbox hb; have n0_ := Aside0.mk (Kd.R_below (kr HO_12) hb); have n1_ := Aside0.mk (Kd.R_below (kr HO_13) hb); have n2_ := Aside0.mk (Kd.R_below (kr HO738) hb); have n3_ := Aside0.mk (below_step bel hb); have n4_ := Aside0.mk (hbox); have n5_ := Aside0.mk ((by rw [hg]; exact (below_size bel) : w.heap.size ≤ gb755)); have n6_ := Aside0.mk ((by rw [hg]; exact (below_size bel) : w.heap.size ≤ gb755)); clear HO_12; clear HO_13; clear HO738; clear HB; have HO_12 := n0_; have HO_13 := n1_; have HO738 := n2_; have HB := n3_; have BK755 := n4_; have GW755 := n5_; have GE755 := n6_; clear n0_ n1_ n2_ n3_ n4_ n5_ n6_; clear hb hbox hg; have hcz103_0 : w102.cell? ⟨gb755, 0, none⟩ = some (.int .u64 0) := (blk_cell BK755.out 0).trans rfl; have hcz103_1 : w102.cell? ⟨gb755, 1, none⟩ = some (.int .i64 0) := (blk_cell BK755.out 1).trans rfl; have hfz103_0 := blk_frozen BK755.out 0; have hfz103_1 := blk_frozen BK755.out 1)); try go_wp2_with (first | (go_at_call 62; (with_reducible refine (gimbalref02_Add.calls kj37 _ _ t724 _ _ t730 t736 _ ?side1 ?side2 ?side3 ?side4 A55.out).mono ?_); (case side1 => exact ks HO_12); (case side2 => exact (Kd.R_reads' HO_12.out).2.1); (case side3 => exact ks HO_13); (case side4 => exact (Kd.R_reads' HO_13.out).2.1); rintro e w99 ⟨v737, rfl, ho0, hb⟩; have n0_ := Aside0.mk (Kd.R_elder' (kr HO_12) (Kd.R_base ho0) hb); have n1_ := Aside0.mk (Kd.R_elder' (kr HO_13) (Kd.R_base ho0) hb); have n2_ := Aside0.mk (Kd.R_lower (Kd.R_new' (Kd.R_new' ho0 (Kd.R_lt (kr HO_12))) (Kd.R_lt (kr HO_13))) (below_size bel)); have n3_ := Aside0.mk (below_step bel hb); clear HO_12; clear HO_13; clear HB; have HO_12 := n0_; have HO_13 := n1_; have HO738 := n2_; have HB := n3_; clear n0_ n1_ n2_ n3_; (try clear hb); (try clear ho0)) | (go_at_call 44; (with_reducible refine (gimbalref04_Neg.calls a2 t739 _ A56.out).mono ?_); rintro e w' ⟨rfl, ⟨nd, rfl⟩⟩; (try first | exact ⟨rfl, _, World.drewN_drewN _ _ _⟩ | exact ⟨rfl, _, Eq.trans (World.drewN_drewN _ _ _) (congrArg (World.drewN _) (Nat.add_assoc _ _ _))⟩); obtain ⟨Ao100, co100, eo100⟩ := Kd.R_slice HO738.out; subst eo100) | (go_at_call 47; (with_reducible refine (gimbalref03_Round.calls kj37 x11_22 _ _ t736 (-2148) false t753 t754 _ ?side1 ?side2 A96.out).mono ?_); (case side1 => exact ks HO738); (case side2 => exact (Kd.R_reads' HO738.out).2.1); rintro e w101 ⟨rfl, hb⟩; have n0_ := Aside0.mk (Kd.R_below (kr HO_12) hb); have n1_ := Aside0.mk (Kd.R_below (kr HO_13) hb); have n2_ := Aside0.mk (Kd.R_below (kr HO738) hb); have n3_ := Aside0.mk (below_step bel hb); clear HO_12; clear HO_13; clear HO738; clear HB; have HO_12 := n0_; have HO_13 := n1_; have HO738 := n2_; have HB := n3_; clear n0_ n1_ n2_ n3_; (try clear hb)) | ((with_reducible refine gate_dst (N := 15) rfl ?_); refine box_event ?hg (N := 15) ?hd (cs := #[.int .u64 0, .int .i64 0]) (t := 66) ?hr ?_; (case hd => rfl); (case hg => rfl); (case hr => first | (go_simp; done) | (go_simp; rfl)); intro gb755 hg w102 hbox hb; have n0_ := Aside0.mk (Kd.R_below (kr HO_12) hb); have n1_ := Aside0.mk (Kd.R_below (kr HO_13) hb); have n2_ := Aside0.mk (Kd.R_below (kr HO738) hb); have n3_ := Aside0.mk (below_step bel hb); have n4_ := Aside0.mk (hbox); have n5_ := Aside0.mk ((by rw [hg]; exact (below_size bel) : w.heap.size ≤ gb755)); have n6_ := Aside0.mk ((by rw [hg]; exact (below_size bel) : w.heap.size ≤ gb755)); clear HO_12; clear HO_13; clear HO738; clear HB; have HO_12 := n0_; have HO_13 := n1_; have HO738 := n2_; have HB := n3_; have BK755 := n4_; have GW755 := n5_; have GE755 := n6_; clear n0_ n1_ n2_ n3_ n4_ n5_ n6_; clear hb hbox hg; have hcz103_0 : w102.cell? ⟨gb755, 0, none⟩ = some (.int .u64 0) := (blk_cell BK755.out 0).trans rfl; have hcz103_1 : w102.cell? ⟨gb755, 1, none⟩ = some (.int .i64 0) := (blk_cell BK755.out 1).trans rfl; have hfz103_0 := blk_frozen BK755.out 0; have hfz103_1 := blk_frozen BK755.out 1)))
             go_ret2
             exact ⟨er, bes⟩

/-! ### gimballaw05_MoreFmas: function 8 -/
def gimballaw05_MoreFmas.f (k : Nat) (a0 : Int) (a1 : Int) (a2 : Int) : Option (Bool) := (gimballaw05_head.f k).bind fun t756 => (if t756 = true then ((more_Fma.f k a0 a1 a2).bind fun bt757 => ((gimbalref05_Fma.f k a0 a1 a2).bind fun bt759 => (if bt757.1 = bt759.1 then (some ((wrap64 (bt757.2)) == bt759.2)) else (some false)))) else (some false))
theorem gimballaw05_MoreFmas.mono : ∀ a0 a1 a2 k, LeO (gimballaw05_MoreFmas.f k a0 a1 a2) (gimballaw05_MoreFmas.f (k + 1) a0 a1 a2) := by
 intro a0 a1 a2 k
 unfold gimballaw05_MoreFmas.f
 repeat' first
   | (with_reducible exact gimballaw05_head.mono _)
   | (with_reducible exact gimbalref05_Fma.mono _ _ _ _)
   | (with_reducible exact more_Fma.mono _ _ _ _)
   | (with_reducible exact LeO.refl _)
   | (with_reducible exact LeO.none _)
   | (with_reducible refine LeO.ite ?_ ?_)
   | (with_reducible refine LeO.bind ?_ (fun _ => ?_))
   | exact gimballaw05_head.mono _
   | exact gimbalref05_Fma.mono _ _ _ _
   | exact more_Fma.mono _ _ _ _
   | exact LeO.none _
   | refine LeO.ite ?_ ?_
   | refine LeO.bind ?_ (fun _ => ?_)
set_option maxHeartbeats 8000000 in
set_option maxRecDepth 100000 in
theorem gimballaw05_MoreFmas.calls (k : Nat) (a0 : Int) (a1 : Int) (a2 : Int) (r : Bool) (w : World) (h : gimballaw05_MoreFmas.f k a0 a1 a2 = some r) :
  Calls Try.prog 8 #[.int .u64 a0, .int .u64 a1, .int .u64 a2] w fun e w' => e = .returned (.bool r) ∧ Below w.heap.size w w' := by
 have HB := Aside0.mk (Below.refl w.heap.size w)
 have H : ((gimballaw05_head.f k).bind fun t756 => (if t756 = true then ((more_Fma.f k a0 a1 a2).bind fun bt757 => ((gimbalref05_Fma.f k a0 a1 a2).bind fun bt759 => (if bt757.1 = bt759.1 then (some ((wrap64 (bt757.2)) == bt759.2)) else (some false)))) else (some false))) = some r := h
 clear h
 obtain ⟨t756, A40, H⟩ := Option.bind_eq_some_iff.mp H
 (try dsimp -simprocs only at H)
 have A4 := Aside0.mk A40
 clear A40
 by_cases c5 : t756 = true
 ·
  subst c5
  rw [if_pos rfl] at H
  obtain ⟨⟨t757, t758⟩, A60, H⟩ := Option.bind_eq_some_iff.mp H
  (try dsimp -simprocs only at H)
  have A6 := Aside0.mk A60
  clear A60
  obtain ⟨⟨t759, t760⟩, A70, H⟩ := Option.bind_eq_some_iff.mp H
  (try dsimp -simprocs only at H)
  have A7 := Aside0.mk A70
  clear A70
  by_cases c8 : t757 = t759
  ·
   rw [if_pos c8] at H
   have c8b0 : (t757 == t759) = true := beq_iff_eq.mpr c8
   have c8b1 : (t757 != t759) = false := bne_eq_false_iff_eq.mpr c8
   clear c8
   obtain rfl := Option.some.inj H
   go_enter Try.func8, Try.ntmps8
   go_wp2_with (first | ((with_reducible refine gate_callee (f := 10) rfl ?_); refine goesL_ (some 11) rfl rfl Try.func10 (by kernel_rfl) rfl #[] rfl ga ?_; (with_reducible refine (gimballaw05_head.calls k  true _ A4.out).mono ?_); rintro e w9 ⟨rfl, hb⟩; refine ⟨_, rfl, ?_⟩; have n0_ := Aside0.mk (below_step bel hb); clear HB; have HB := n0_; clear n0_; (try clear hb)) | ((with_reducible refine gate_callee (f := 28) rfl ?_); refine goesL_ (some 17) rfl rfl Try.func28 (by kernel_rfl) rfl #[.int .u64 a0, .int .u64 a1, .int .u64 a2] rfl ga ?_; (with_reducible refine (more_Fma.calls k a0 a1 a2 t757 t758 _ A6.out).mono ?_); rintro e w10 ⟨rfl, hb⟩; refine ⟨_, rfl, ?_⟩; have n0_ := Aside0.mk (below_step bel hb); clear HB; have HB := n0_; clear n0_; (try clear hb)) | ((with_reducible refine gate_callee (f := 29) rfl ?_); refine goesL_ (some 24) rfl rfl Try.func29 (by kernel_rfl) rfl #[.int .u64 a0, .int .u64 a1, .int .u64 a2] rfl ga ?_; (with_reducible refine (gimbalref05_Fma.calls k a0 a1 a2 t759 t760 _ A7.out).mono ?_); rintro e w11 ⟨rfl, hb⟩; refine ⟨_, rfl, ?_⟩; have n0_ := Aside0.mk (below_step bel hb); clear HB; have HB := n0_; clear n0_; (try clear hb)))
   go_ret
   exact ⟨er, bel⟩
  ·
   rw [if_neg c8] at H
   have c8b0 : (t757 == t759) = false := beq_eq_false_iff_ne.mpr c8
   have c8b1 : (t757 != t759) = true := bne_iff_ne.mpr c8
   obtain rfl := Option.some.inj H
   go_enter Try.func8, Try.ntmps8
   go_wp2_with (first | ((with_reducible refine gate_callee (f := 10) rfl ?_); refine goesL_ (some 11) rfl rfl Try.func10 (by kernel_rfl) rfl #[] rfl ga ?_; (with_reducible refine (gimballaw05_head.calls k  true _ A4.out).mono ?_); rintro e w12 ⟨rfl, hb⟩; refine ⟨_, rfl, ?_⟩; have n0_ := Aside0.mk (below_step bel hb); clear HB; have HB := n0_; clear n0_; (try clear hb)) | ((with_reducible refine gate_callee (f := 28) rfl ?_); refine goesL_ (some 17) rfl rfl Try.func28 (by kernel_rfl) rfl #[.int .u64 a0, .int .u64 a1, .int .u64 a2] rfl ga ?_; (with_reducible refine (more_Fma.calls k a0 a1 a2 t757 t758 _ A6.out).mono ?_); rintro e w13 ⟨rfl, hb⟩; refine ⟨_, rfl, ?_⟩; have n0_ := Aside0.mk (below_step bel hb); clear HB; have HB := n0_; clear n0_; (try clear hb)) | ((with_reducible refine gate_callee (f := 29) rfl ?_); refine goesL_ (some 24) rfl rfl Try.func29 (by kernel_rfl) rfl #[.int .u64 a0, .int .u64 a1, .int .u64 a2] rfl ga ?_; (with_reducible refine (gimbalref05_Fma.calls k a0 a1 a2 t759 t760 _ A7.out).mono ?_); rintro e w14 ⟨rfl, hb⟩; refine ⟨_, rfl, ?_⟩; have n0_ := Aside0.mk (below_step bel hb); clear HB; have HB := n0_; clear n0_; (try clear hb)))
   go_ret
   exact ⟨er, bel⟩
 ·
  replace c5 := Bool.eq_false_iff.mpr c5
  subst c5
  rw [if_neg (show ¬ (false = true) by decide)] at H
  obtain rfl := Option.some.inj H
  go_enter Try.func8, Try.ntmps8
  go_wp2_with (first | ((with_reducible refine gate_callee (f := 10) rfl ?_); refine goesL_ (some 11) rfl rfl Try.func10 (by kernel_rfl) rfl #[] rfl ga ?_; (with_reducible refine (gimballaw05_head.calls k  false _ A4.out).mono ?_); rintro e w15 ⟨rfl, hb⟩; refine ⟨_, rfl, ?_⟩; have n0_ := Aside0.mk (below_step bel hb); clear HB; have HB := n0_; clear n0_; (try clear hb)))
  go_ret
  exact ⟨er, bel⟩

/-- THE ONE PURE STATEMENT of gimballaw05_MoreFmas: yours. -/
def gimballaw05_MoreFmas.Pure : Prop := ∀ (a0 : Int) (a1 : Int) (a2 : Int), (Lit.int .u64 a0).wf = true → (Lit.int .u64 a1).wf = true → (Lit.int .u64 a2).wf = true → ∃ k, gimballaw05_MoreFmas.f k a0 a1 a2 = some true
theorem gimballaw05_MoreFmas.walk (P : gimballaw05_MoreFmas.Pure) (a0 : Int) (a1 : Int) (a2 : Int) (w : World) (w0 : (Lit.int .u64 a0).wf = true) (w1 : (Lit.int .u64 a1).wf = true) (w2 : (Lit.int .u64 a2).wf = true) :
  Calls Try.prog 8 #[.int .u64 a0, .int .u64 a1, .int .u64 a2] w fun e w' => e = .returned (.bool true) ∧ Below w.heap.size w w' := by
 obtain ⟨k, h⟩ := P a0 a1 a2 w0 w1 w2
 refine (gimballaw05_MoreFmas.calls k a0 a1 a2 true w h).mono ?_
 rintro e w' ⟨rfl, hd⟩
 exact ⟨rfl, hd⟩

end Go.Proofs.Ytcappkphcjgeoaa.F
