-- Written by a program of this seat's session (mkprint), out of the translation.
import Derived.Test.YtakegikedpcilaaDoorShort
import Derived.Test.YtakegikedpcilaaDoorFx0
import Derived.Test.YtakegikedpcilaaDoorFx10
import Derived.Test.YtakegikedpcilaaDoorFx12
import Derived.Test.YtakegikedpcilaaDoorFx13
namespace Go.Proofs.YtakegikedpcilaaDoor.F
open Go.RowKit Go.Proofs.YtakegikedpcilaaDoorW.PrintWords Go.Proofs.YtakegikedpcilaaDoorW.PrintLast Go.Proofs.YtakegikedpcilaaDoorW.PrintMore
attribute [local go_sem] max2_int min2_int max_two min_two max_three min_three max_four min_four   -- for this text's walks alone
set_option linter.unusedVariables false
set_option linter.unusedSimpArgs false

/-! ### gimbalref04_Add: function 14 -/
mutual
def gimbalref04_Add.j0 : Nat → Int → Int → Bool → Option (Int × Int)
 | 0, _, _, _ => none
 | k + 1, x0, x1, x27 => if x27 = true then (if x0 = x1 then (some (x0, 0)) else (some (9221120237041090560, 16))) else ((gimbalref04_IsInf.f x0).bind fun t563 => (if t563 = true then (some (x0, 0)) else ((gimbalref04_IsInf.f x1).bind fun t564 => (if t564 = true then (some (x1, 0)) else ((gimbalref04_IsZero.f x0).bind fun t565 => (if t565 = true then ((gimbalref04_IsZero.f x1).bind fun t566 => (gimbalref04_Add.j1 k x0 x1 t566)) else (gimbalref04_Add.j1 k x0 x1 false)))))))
def gimbalref04_Add.j1 : Nat → Int → Int → Bool → Option (Int × Int)
 | 0, _, _, _ => none
 | k + 1, x0, x1, x43 => if x43 = true then ((gimbalref04_Neg.f x0).bind fun t567 => (if t567 = true then ((gimbalref04_Neg.f x1).bind fun t568 => ((gimbalref04_Signed.f t568 0).bind fun t569 => (some (t569, 0)))) else ((gimbalref04_Signed.f false 0).bind fun t570 => (some (t570, 0))))) else ((gimbalref04_Whole.f k x0).bind fun t571 => ((gimbalref04_Whole.f k x1).bind fun t574 => ((gimbalref04_Neg.f x0).bind fun t577 => ((gimbalref02_Add.f k t571 t574).bind fun t578 => ((gimbalref04_Neg.f x0).bind fun t581 => ((gimbalref04_Neg.f x1).bind fun t582 => (if (t581 != t582) = true then ((gimbalref02_Cmp.f k t571 t574).bind fun t583 => (if t583 < 0 then ((gimbalref04_Neg.f x1).bind fun t584 => (gimbalref04_Add.j2 k t574 t571 t584)) else (gimbalref04_Add.j2 k t571 t574 t577))) else ((gimbalref03_Round.f k t577 t578 (-1074) false).bind fun bt591 => (some (bt591.1, bt591.2))))))))))
def gimbalref04_Add.j2 : Nat → List Int → List Int → Bool → Option (Int × Int)
 | 0, _, _, _ => none
 | k + 1, x8, x9, x10 => (gimbalref02_Sub.f k x8 x9).bind fun t585 => (if (t585.length : Int) = 0 then (some (0, 0)) else ((gimbalref03_Round.f k x10 t585 (-1074) false).bind fun bt588 => (some (bt588.1, bt588.2))))
end
def gimbalref04_Add.f (k : Nat) (a0 : Int) (a1 : Int) : Option (Int × Int) := (gimbalref04_Nans.f k (([a0, a1] : List Int))).bind fun bt559 => (if bt559.2 = true then (some (9221120237041090560, bt559.1)) else ((gimbalref04_IsInf.f a0).bind fun t561 => (if t561 = true then ((gimbalref04_IsInf.f a1).bind fun t562 => (gimbalref04_Add.j0 k a0 a1 t562)) else (gimbalref04_Add.j0 k a0 a1 false))))
theorem gimbalref04_Add.mono_l : ∀ k, (∀ y0 y1 y2, LeO (gimbalref04_Add.j0 k y0 y1 y2) (gimbalref04_Add.j0 (k + 1) y0 y1 y2)) ∧ (∀ y0 y1 y2, LeO (gimbalref04_Add.j1 k y0 y1 y2) (gimbalref04_Add.j1 (k + 1) y0 y1 y2)) ∧ (∀ y0 y1 y2, LeO (gimbalref04_Add.j2 k y0 y1 y2) (gimbalref04_Add.j2 (k + 1) y0 y1 y2))
 | 0 => ⟨fun _ _ _ r h => by simp [gimbalref04_Add.j0] at h, fun _ _ _ r h => by simp [gimbalref04_Add.j1] at h, fun _ _ _ r h => by simp [gimbalref04_Add.j2] at h⟩
 | k + 1 => by
  obtain ⟨ih0, ih1, ih2⟩ := gimbalref04_Add.mono_l k
  refine ⟨?_, ?_, ?_⟩ <;> intros <;> (first | unfold gimbalref04_Add.j0 | unfold gimbalref04_Add.j1 | unfold gimbalref04_Add.j2) <;>
   repeat' with_reducible first | apply ih0 | apply ih1 | apply ih2 | apply gimbalref02_Add.mono | apply gimbalref02_Cmp.mono | apply gimbalref02_Sub.mono | apply gimbalref03_Round.mono | apply gimbalref04_Nans.mono | apply gimbalref04_Whole.mono | exact LeO.refl _ | exact LeO.none _ | refine LeO.ite ?_ ?_ | refine LeO.bind ?_ (fun _ => ?_)
theorem gimbalref04_Add.mono : ∀ a0 a1 k, LeO (gimbalref04_Add.f k a0 a1) (gimbalref04_Add.f (k + 1) a0 a1) := by
 intro a0 a1 k
 obtain ⟨ih0, ih1, ih2⟩ := gimbalref04_Add.mono_l k
 unfold gimbalref04_Add.f
 repeat' with_reducible first | apply ih0 | apply ih1 | apply ih2 | apply gimbalref02_Add.mono | apply gimbalref02_Cmp.mono | apply gimbalref02_Sub.mono | apply gimbalref03_Round.mono | apply gimbalref04_Nans.mono | apply gimbalref04_Whole.mono | exact LeO.refl _ | exact LeO.none _ | refine LeO.ite ?_ ?_ | refine LeO.bind ?_ (fun _ => ?_)
set_option maxHeartbeats 8000000 in
set_option maxRecDepth 100000 in
theorem gimbalref04_Add.calls (k : Nat) (a0 : Int) (a1 : Int) (r1 : Int) (r2 : Int) (w : World) (h : gimbalref04_Add.f k a0 a1 = some (r1, r2)) :
  Calls Tryd.prog 14 #[.int .u64 a0, .int .u64 a1] w fun e w' => e = .returned (.tuple #[.int .u64 r1, .int .i64 r2]) ∧ Below w.heap.size w w' := by
 have hu74 := Tryd.underlying74
 have HB := Aside0.mk (Below.refl w.heap.size w)
 have H : ((gimbalref04_Nans.f k (([a0, a1] : List Int))).bind fun bt559 => (if bt559.2 = true then (some (9221120237041090560, bt559.1)) else ((gimbalref04_IsInf.f a0).bind fun t561 => (if t561 = true then ((gimbalref04_IsInf.f a1).bind fun t562 => (gimbalref04_Add.j0 k a0 a1 t562)) else (gimbalref04_Add.j0 k a0 a1 false))))) = some (r1, r2) := h
 clear h
 obtain ⟨y556, hy556⟩ : ∃ y_ : List Int, y_ = (([a0, a1] : List Int)) := ⟨_, rfl⟩
 replace H : ((gimbalref04_Nans.f k y556).bind fun bt559 => (if bt559.2 = true then (some (9221120237041090560, bt559.1)) else ((gimbalref04_IsInf.f a0).bind fun t561 => (if t561 = true then ((gimbalref04_IsInf.f a1).bind fun t562 => (gimbalref04_Add.j0 k a0 a1 t562)) else (gimbalref04_Add.j0 k a0 a1 false))))) = some (r1, r2) := by first | (rw [hy556]; with_reducible exact H) | (have H2_ := (Option.bind_some _ _).symm.trans H; rw [hy556]; with_reducible exact H2_) | (have H2_ := (Option.bind_some _ _).symm.trans H; with_reducible exact H2_) | with_reducible exact H | (rw [hy556]; exact H) | exact H
 have Ny556 := Aside0.mk hy556
 clear hy556
 obtain ⟨⟨t559, t560⟩, A30, H⟩ := Option.bind_eq_some_iff.mp H
 (try dsimp -simprocs only at H)
 have A3 := Aside0.mk A30
 clear A30
 by_cases c4 : t560 = true
 ·
  subst c4
  rw [if_pos rfl] at H
  simp only [Option.some.injEq, Prod.mk.injEq] at H
  obtain ⟨rfl, rfl⟩ := H
  go_enter Tryd.func14, Tryd.ntmps14
  go_wp2_with (first | ((with_reducible refine gate_dst (N := 16) rfl ?_); refine Kd.R_lit (Kd.int .u64) _ 22 ?hg (N := 16) ?hd (xs := ([a0, a1] : List Int)) (inner := [.int .u64 a0, .int .u64 a1]) (ok := fun _ => True) (okp := fun _ => True) ?hr ?hp (fun _ hk => hk) trivial (Below.refl _ _) (Nat.le_refl _) (by simp) ?_; (case hd => rfl); (case hg => rfl); (case hr => first | (go_simp; done) | (go_simp; rfl)); (case hp => exact (Reps.one (show Kd.M (Kd.int .u64) _ _ _ a0 [.int .u64 a0] from rfl) (Reps.one (show Kd.M (Kd.int .u64) _ _ _ a1 [.int .u64 a1] from rfl) (Reps.none _ _)))); intro v557 w5 ho6 hb hg_ hnew_; clear hg_ hnew_; (first | rw [← Ny556.out] at ho6 | (simp only [Int.reduceToNat] at ho6; rw [← Ny556.out] at ho6)); refine ax2 (Kd.R_lower ho6 (below_size bel)) (below_step bel hb) ?_; clear HB; intro HO558 HB; clear hb ho6; obtain ⟨Ao7, co7, eo7⟩ := Kd.R_slice HO558.out; subst eo7) | (go_at_call 40; (with_reducible refine (gimbalref04_Nans.calls k _ _ y556 t559 true _ ?side1 ?side2 A3.out).mono ?_); (case side1 => exact ks HO558); (case side2 => exact (Kd.R_reads' HO558.out).2.1); rintro e w' ⟨rfl, ⟨nd, rfl⟩⟩; (try first | exact dn1 | exact dn2)))
  repeat (go_quiet (first | ((with_reducible refine gate_dst (N := 16) rfl ?_); refine Kd.R_lit (Kd.int .u64) _ 22 ?hg (N := 16) ?hd (xs := ([a0, a1] : List Int)) (inner := [.int .u64 a0, .int .u64 a1]) (ok := fun _ => True) (okp := fun _ => True) ?hr ?hp (fun _ hk => hk) trivial (Below.refl _ _) (Nat.le_refl _) (by simp) ?_; (case hd => rfl); (case hg => rfl); (case hr => first | (go_simp; done) | (go_simp; rfl)); (case hp => exact (Reps.one (show Kd.M (Kd.int .u64) _ _ _ a0 [.int .u64 a0] from rfl) (Reps.one (show Kd.M (Kd.int .u64) _ _ _ a1 [.int .u64 a1] from rfl) (Reps.none _ _)))); intro v557 w5 ho6 hb hg_ hnew_; clear hg_ hnew_; (first | rw [← Ny556.out] at ho6 | (simp only [Int.reduceToNat] at ho6; rw [← Ny556.out] at ho6)); refine ax2 (Kd.R_lower ho6 (below_size bel)) (below_step bel hb) ?_; clear HB; intro HO558 HB; clear hb ho6; obtain ⟨Ao7, co7, eo7⟩ := Kd.R_slice HO558.out; subst eo7) | (go_at_call 40; (with_reducible refine (gimbalref04_Nans.calls k _ _ y556 t559 true _ ?side1 ?side2 A3.out).mono ?_); (case side1 => exact ks HO558); (case side2 => exact (Kd.R_reads' HO558.out).2.1); rintro e w' ⟨rfl, ⟨nd, rfl⟩⟩; (try first | exact dn1 | exact dn2))); try go_wp2_with (first | ((with_reducible refine gate_dst (N := 16) rfl ?_); refine Kd.R_lit (Kd.int .u64) _ 22 ?hg (N := 16) ?hd (xs := ([a0, a1] : List Int)) (inner := [.int .u64 a0, .int .u64 a1]) (ok := fun _ => True) (okp := fun _ => True) ?hr ?hp (fun _ hk => hk) trivial (Below.refl _ _) (Nat.le_refl _) (by simp) ?_; (case hd => rfl); (case hg => rfl); (case hr => first | (go_simp; done) | (go_simp; rfl)); (case hp => exact (Reps.one (show Kd.M (Kd.int .u64) _ _ _ a0 [.int .u64 a0] from rfl) (Reps.one (show Kd.M (Kd.int .u64) _ _ _ a1 [.int .u64 a1] from rfl) (Reps.none _ _)))); intro v557 w5 ho6 hb hg_ hnew_; clear hg_ hnew_; (first | rw [← Ny556.out] at ho6 | (simp only [Int.reduceToNat] at ho6; rw [← Ny556.out] at ho6)); refine ax2 (Kd.R_lower ho6 (below_size bel)) (below_step bel hb) ?_; clear HB; intro HO558 HB; clear hb ho6; obtain ⟨Ao7, co7, eo7⟩ := Kd.R_slice HO558.out; subst eo7) | (go_at_call 40; (with_reducible refine (gimbalref04_Nans.calls k _ _ y556 t559 true _ ?side1 ?side2 A3.out).mono ?_); (case side1 => exact ks HO558); (case side2 => exact (Kd.R_reads' HO558.out).2.1); rintro e w' ⟨rfl, ⟨nd, rfl⟩⟩; (try first | exact dn1 | exact dn2))))
  go_ret2
  exact ⟨er, bel⟩
 ·
  replace c4 := Bool.eq_false_iff.mpr c4
  subst c4
  rw [if_neg (show ¬ (false = true) by decide)] at H
  have HC8 := Aside0.mk H
  clear H
  go_enter Tryd.func14, Tryd.ntmps14
  go_upto_region 4 with (first | ((with_reducible refine gate_dst (N := 16) rfl ?_); refine Kd.R_lit (Kd.int .u64) _ 22 ?hg (N := 16) ?hd (xs := ([a0, a1] : List Int)) (inner := [.int .u64 a0, .int .u64 a1]) (ok := fun _ => True) (okp := fun _ => True) ?hr ?hp (fun _ hk => hk) trivial (Below.refl _ _) (Nat.le_refl _) (by simp) ?_; (case hd => rfl); (case hg => rfl); (case hr => first | (go_simp; done) | (go_simp; rfl)); (case hp => exact (Reps.one (show Kd.M (Kd.int .u64) _ _ _ a0 [.int .u64 a0] from rfl) (Reps.one (show Kd.M (Kd.int .u64) _ _ _ a1 [.int .u64 a1] from rfl) (Reps.none _ _)))); intro v557 w9 ho10 hb hg_ hnew_; clear hg_ hnew_; (first | rw [← Ny556.out] at ho10 | (simp only [Int.reduceToNat] at ho10; rw [← Ny556.out] at ho10)); refine ax2 (Kd.R_lower ho10 (below_size bel)) (below_step bel hb) ?_; clear HB; intro HO558 HB; clear hb ho10; obtain ⟨Ao11, co11, eo11⟩ := Kd.R_slice HO558.out; subst eo11) | (go_at_call 40; (with_reducible refine (gimbalref04_Nans.calls k _ _ y556 t559 false _ ?side1 ?side2 A3.out).mono ?_); (case side1 => exact ks HO558); (case side2 => exact (Kd.R_reads' HO558.out).2.1); rintro e w' ⟨rfl, ⟨nd, rfl⟩⟩; (try first | exact dn1 | exact dn2)))
  repeat (go_quiet (first | ((with_reducible refine gate_dst (N := 16) rfl ?_); refine Kd.R_lit (Kd.int .u64) _ 22 ?hg (N := 16) ?hd (xs := ([a0, a1] : List Int)) (inner := [.int .u64 a0, .int .u64 a1]) (ok := fun _ => True) (okp := fun _ => True) ?hr ?hp (fun _ hk => hk) trivial (Below.refl _ _) (Nat.le_refl _) (by simp) ?_; (case hd => rfl); (case hg => rfl); (case hr => first | (go_simp; done) | (go_simp; rfl)); (case hp => exact (Reps.one (show Kd.M (Kd.int .u64) _ _ _ a0 [.int .u64 a0] from rfl) (Reps.one (show Kd.M (Kd.int .u64) _ _ _ a1 [.int .u64 a1] from rfl) (Reps.none _ _)))); intro v557 w9 ho10 hb hg_ hnew_; clear hg_ hnew_; (first | rw [← Ny556.out] at ho10 | (simp only [Int.reduceToNat] at ho10; rw [← Ny556.out] at ho10)); refine ax2 (Kd.R_lower ho10 (below_size bel)) (below_step bel hb) ?_; clear HB; intro HO558 HB; clear hb ho10; obtain ⟨Ao11, co11, eo11⟩ := Kd.R_slice HO558.out; subst eo11) | (go_at_call 40; (with_reducible refine (gimbalref04_Nans.calls k _ _ y556 t559 false _ ?side1 ?side2 A3.out).mono ?_); (case side1 => exact ks HO558); (case side2 => exact (Kd.R_reads' HO558.out).2.1); rintro e w' ⟨rfl, ⟨nd, rfl⟩⟩; (try first | exact dn1 | exact dn2))); go_upto_region 4 with (first | ((with_reducible refine gate_dst (N := 16) rfl ?_); refine Kd.R_lit (Kd.int .u64) _ 22 ?hg (N := 16) ?hd (xs := ([a0, a1] : List Int)) (inner := [.int .u64 a0, .int .u64 a1]) (ok := fun _ => True) (okp := fun _ => True) ?hr ?hp (fun _ hk => hk) trivial (Below.refl _ _) (Nat.le_refl _) (by simp) ?_; (case hd => rfl); (case hg => rfl); (case hr => first | (go_simp; done) | (go_simp; rfl)); (case hp => exact (Reps.one (show Kd.M (Kd.int .u64) _ _ _ a0 [.int .u64 a0] from rfl) (Reps.one (show Kd.M (Kd.int .u64) _ _ _ a1 [.int .u64 a1] from rfl) (Reps.none _ _)))); intro v557 w9 ho10 hb hg_ hnew_; clear hg_ hnew_; (first | rw [← Ny556.out] at ho10 | (simp only [Int.reduceToNat] at ho10; rw [← Ny556.out] at ho10)); refine ax2 (Kd.R_lower ho10 (below_size bel)) (below_step bel hb) ?_; clear HB; intro HO558 HB; clear hb ho10; obtain ⟨Ao11, co11, eo11⟩ := Kd.R_slice HO558.out; subst eo11) | (go_at_call 40; (with_reducible refine (gimbalref04_Nans.calls k _ _ y556 t559 false _ ?side1 ?side2 A3.out).mono ?_); (case side1 => exact ks HO558); (case side2 => exact (Kd.R_reads' HO558.out).2.1); rintro e w' ⟨rfl, ⟨nd, rfl⟩⟩; (try first | exact dn1 | exact dn2))))
  (try simp only [Act.put, sa0, sa1, sa2])
  go_cut [27] (fun v27 wc => ∃ (kq : Nat) (x27_7 : Bool), v27 = .bool x27_7 ∧ Aside0 (gimbalref04_Add.j0 kq a0 a1 x27_7 = some (r1, r2)) ∧ Aside0 (kq ≤ k) ∧ Aside0 (Below w.heap.size w wc))
  case first =>
   have H := HC8.out
   clear HC8
   obtain ⟨t561, A120, H⟩ := Option.bind_eq_some_iff.mp H
   (try dsimp -simprocs only at H)
   have A12 := Aside0.mk A120
   clear A120
   by_cases c13 : t561 = true
   ·
    subst c13
    rw [if_pos rfl] at H
    obtain ⟨t562, A140, H⟩ := Option.bind_eq_some_iff.mp H
    (try dsimp -simprocs only at H)
    have A14 := Aside0.mk A140
    clear A140
    have H' := Aside0.mk H
    clear H
    go_wp2_with (first | (go_at_call 41; (with_reducible refine (gimbalref04_IsInf.calls a0 true _ A12.out).mono ?_); rintro e w' ⟨rfl, ⟨nd, rfl⟩⟩; (try first | exact dn1 | exact dn2)) | (go_at_call 41; (with_reducible refine (gimbalref04_IsInf.calls a1 t562 _ A14.out).mono ?_); rintro e w' ⟨rfl, ⟨nd, rfl⟩⟩; (try first | exact dn1 | exact dn2)))
    repeat (go_quiet (first | (go_at_call 41; (with_reducible refine (gimbalref04_IsInf.calls a0 true _ A12.out).mono ?_); rintro e w' ⟨rfl, ⟨nd, rfl⟩⟩; (try first | exact dn1 | exact dn2)) | (go_at_call 41; (with_reducible refine (gimbalref04_IsInf.calls a1 t562 _ A14.out).mono ?_); rintro e w' ⟨rfl, ⟨nd, rfl⟩⟩; (try first | exact dn1 | exact dn2))); try go_wp2_with (first | (go_at_call 41; (with_reducible refine (gimbalref04_IsInf.calls a0 true _ A12.out).mono ?_); rintro e w' ⟨rfl, ⟨nd, rfl⟩⟩; (try first | exact dn1 | exact dn2)) | (go_at_call 41; (with_reducible refine (gimbalref04_IsInf.calls a1 t562 _ A14.out).mono ?_); rintro e w' ⟨rfl, ⟨nd, rfl⟩⟩; (try first | exact dn1 | exact dn2))))
    go_meet
    case rel => exact ⟨_, (t562), (by first | rfl | (simp; done) | (simp [*]; done)), H', ⟨by first | omega | exact Nat.le_refl _⟩, ⟨bel⟩⟩
   ·
    replace c13 := Bool.eq_false_iff.mpr c13
    subst c13
    rw [if_neg (show ¬ (false = true) by decide)] at H
    have H' := Aside0.mk H
    clear H
    go_wp2_with (first | (go_at_call 41; (with_reducible refine (gimbalref04_IsInf.calls a0 false _ A12.out).mono ?_); rintro e w' ⟨rfl, ⟨nd, rfl⟩⟩; (try first | exact dn1 | exact dn2)))
    repeat (go_quiet (first | (go_at_call 41; (with_reducible refine (gimbalref04_IsInf.calls a0 false _ A12.out).mono ?_); rintro e w' ⟨rfl, ⟨nd, rfl⟩⟩; (try first | exact dn1 | exact dn2))); try go_wp2_with (first | (go_at_call 41; (with_reducible refine (gimbalref04_IsInf.calls a0 false _ A12.out).mono ?_); rintro e w' ⟨rfl, ⟨nd, rfl⟩⟩; (try first | exact dn1 | exact dn2))))
    go_meet
    case rel => exact ⟨_, (false), (by first | rfl | (simp; done) | (simp [*]; done)), H', ⟨by first | omega | exact Nat.le_refl _⟩, ⟨bel⟩⟩
  case rest =>
   clear HC8
   try clear c1
   try clear p2
   try clear c4
   try clear c13
   try clear c14
   obtain ⟨kq, x27_7, rfl, HA, HJ7, HB⟩ := hcut
   cases kq with
   | zero => exact absurd HA.out (by simp [gimbalref04_Add.j0])
   | succ kj7 =>
    have H := HA.out
    clear HA
    simp only [gimbalref04_Add.j0] at H
    by_cases c15 : x27_7 = true
    ·
     subst c15
     rw [if_pos rfl] at H
     by_cases c16 : a0 = a1
     ·
      rw [if_pos c16] at H
      have c16b0 : (a0 == a1) = true := beq_iff_eq.mpr c16
      have c16b1 : (a0 != a1) = false := bne_eq_false_iff_eq.mpr c16
      clear c16
      simp only [Option.some.injEq, Prod.mk.injEq] at H
      obtain ⟨rfl, rfl⟩ := H
      go_wp2
      repeat (go_quiet (fail); try go_wp2)
      go_ret2
      exact ⟨er, bel⟩
     ·
      rw [if_neg c16] at H
      have c16b0 : (a0 == a1) = false := beq_eq_false_iff_ne.mpr c16
      have c16b1 : (a0 != a1) = true := bne_iff_ne.mpr c16
      simp only [Option.some.injEq, Prod.mk.injEq] at H
      obtain ⟨rfl, rfl⟩ := H
      go_wp2
      repeat (go_quiet (fail); try go_wp2)
      go_ret2
      exact ⟨er, bel⟩
    ·
     replace c15 := Bool.eq_false_iff.mpr c15
     subst c15
     rw [if_neg (show ¬ (false = true) by decide)] at H
     obtain ⟨t563, A170, H⟩ := Option.bind_eq_some_iff.mp H
     (try dsimp -simprocs only at H)
     have A17 := Aside0.mk A170
     clear A170
     by_cases c18 : t563 = true
     ·
      subst c18
      rw [if_pos rfl] at H
      simp only [Option.some.injEq, Prod.mk.injEq] at H
      obtain ⟨rfl, rfl⟩ := H
      go_wp2_with (first | (go_at_call 41; (with_reducible refine (gimbalref04_IsInf.calls a0 true _ A17.out).mono ?_); rintro e w' ⟨rfl, ⟨nd, rfl⟩⟩; (try first | exact dn1 | exact dn2)))
      repeat (go_quiet (first | (go_at_call 41; (with_reducible refine (gimbalref04_IsInf.calls a0 true _ A17.out).mono ?_); rintro e w' ⟨rfl, ⟨nd, rfl⟩⟩; (try first | exact dn1 | exact dn2))); try go_wp2_with (first | (go_at_call 41; (with_reducible refine (gimbalref04_IsInf.calls a0 true _ A17.out).mono ?_); rintro e w' ⟨rfl, ⟨nd, rfl⟩⟩; (try first | exact dn1 | exact dn2))))
      go_ret2
      exact ⟨er, bel⟩
     ·
      replace c18 := Bool.eq_false_iff.mpr c18
      subst c18
      rw [if_neg (show ¬ (false = true) by decide)] at H
      obtain ⟨t564, A190, H⟩ := Option.bind_eq_some_iff.mp H
      (try dsimp -simprocs only at H)
      have A19 := Aside0.mk A190
      clear A190
      by_cases c20 : t564 = true
      ·
       subst c20
       rw [if_pos rfl] at H
       simp only [Option.some.injEq, Prod.mk.injEq] at H
       obtain ⟨rfl, rfl⟩ := H
       go_wp2_with (first | (go_at_call 41; (with_reducible refine (gimbalref04_IsInf.calls a0 false _ A17.out).mono ?_); rintro e w' ⟨rfl, ⟨nd, rfl⟩⟩; (try first | exact dn1 | exact dn2)) | (go_at_call 41; (with_reducible refine (gimbalref04_IsInf.calls a1 true _ A19.out).mono ?_); rintro e w' ⟨rfl, ⟨nd, rfl⟩⟩; (try first | exact dn1 | exact dn2)))
       repeat (go_quiet (first | (go_at_call 41; (with_reducible refine (gimbalref04_IsInf.calls a0 false _ A17.out).mono ?_); rintro e w' ⟨rfl, ⟨nd, rfl⟩⟩; (try first | exact dn1 | exact dn2)) | (go_at_call 41; (with_reducible refine (gimbalref04_IsInf.calls a1 true _ A19.out).mono ?_); rintro e w' ⟨rfl, ⟨nd, rfl⟩⟩; (try first | exact dn1 | exact dn2))); try go_wp2_with (first | (go_at_call 41; (with_reducible refine (gimbalref04_IsInf.calls a0 false _ A17.out).mono ?_); rintro e w' ⟨rfl, ⟨nd, rfl⟩⟩; (try first | exact dn1 | exact dn2)) | (go_at_call 41; (with_reducible refine (gimbalref04_IsInf.calls a1 true _ A19.out).mono ?_); rintro e w' ⟨rfl, ⟨nd, rfl⟩⟩; (try first | exact dn1 | exact dn2))))
       go_ret2
       exact ⟨er, bel⟩
      ·
       replace c20 := Bool.eq_false_iff.mpr c20
       subst c20
       rw [if_neg (show ¬ (false = true) by decide)] at H
       have HC21 := Aside0.mk H
       clear H
       go_upto_region 12 with (first | (go_at_call 41; (with_reducible refine (gimbalref04_IsInf.calls a0 false _ A17.out).mono ?_); rintro e w' ⟨rfl, ⟨nd, rfl⟩⟩; (try first | exact dn1 | exact dn2)) | (go_at_call 41; (with_reducible refine (gimbalref04_IsInf.calls a1 false _ A19.out).mono ?_); rintro e w' ⟨rfl, ⟨nd, rfl⟩⟩; (try first | exact dn1 | exact dn2)))
       repeat (go_quiet (first | (go_at_call 41; (with_reducible refine (gimbalref04_IsInf.calls a0 false _ A17.out).mono ?_); rintro e w' ⟨rfl, ⟨nd, rfl⟩⟩; (try first | exact dn1 | exact dn2)) | (go_at_call 41; (with_reducible refine (gimbalref04_IsInf.calls a1 false _ A19.out).mono ?_); rintro e w' ⟨rfl, ⟨nd, rfl⟩⟩; (try first | exact dn1 | exact dn2))); go_upto_region 12 with (first | (go_at_call 41; (with_reducible refine (gimbalref04_IsInf.calls a0 false _ A17.out).mono ?_); rintro e w' ⟨rfl, ⟨nd, rfl⟩⟩; (try first | exact dn1 | exact dn2)) | (go_at_call 41; (with_reducible refine (gimbalref04_IsInf.calls a1 false _ A19.out).mono ?_); rintro e w' ⟨rfl, ⟨nd, rfl⟩⟩; (try first | exact dn1 | exact dn2))))
       (try simp only [Act.put, sa0, sa1, sa2])
       go_cut [43] (fun v43 wc => ∃ (kq : Nat) (x43_20 : Bool), v43 = .bool x43_20 ∧ Aside0 (gimbalref04_Add.j1 kq a0 a1 x43_20 = some (r1, r2)) ∧ Aside0 (kq ≤ kj7) ∧ Aside0 (Below w.heap.size w wc))
       case first =>
        have H := HC21.out
        clear HC21
        obtain ⟨t565, A220, H⟩ := Option.bind_eq_some_iff.mp H
        (try dsimp -simprocs only at H)
        have A22 := Aside0.mk A220
        clear A220
        by_cases c23 : t565 = true
        ·
         subst c23
         rw [if_pos rfl] at H
         obtain ⟨t566, A240, H⟩ := Option.bind_eq_some_iff.mp H
         (try dsimp -simprocs only at H)
         have A24 := Aside0.mk A240
         clear A240
         have H' := Aside0.mk H
         clear H
         go_wp2_with (first | (go_at_call 42; (with_reducible refine (gimbalref04_IsZero.calls a0 true _ A22.out).mono ?_); rintro e w' ⟨rfl, ⟨nd, rfl⟩⟩; (try first | exact dn1 | exact dn2)) | (go_at_call 42; (with_reducible refine (gimbalref04_IsZero.calls a1 t566 _ A24.out).mono ?_); rintro e w' ⟨rfl, ⟨nd, rfl⟩⟩; (try first | exact dn1 | exact dn2)))
         repeat (go_quiet (first | (go_at_call 42; (with_reducible refine (gimbalref04_IsZero.calls a0 true _ A22.out).mono ?_); rintro e w' ⟨rfl, ⟨nd, rfl⟩⟩; (try first | exact dn1 | exact dn2)) | (go_at_call 42; (with_reducible refine (gimbalref04_IsZero.calls a1 t566 _ A24.out).mono ?_); rintro e w' ⟨rfl, ⟨nd, rfl⟩⟩; (try first | exact dn1 | exact dn2))); try go_wp2_with (first | (go_at_call 42; (with_reducible refine (gimbalref04_IsZero.calls a0 true _ A22.out).mono ?_); rintro e w' ⟨rfl, ⟨nd, rfl⟩⟩; (try first | exact dn1 | exact dn2)) | (go_at_call 42; (with_reducible refine (gimbalref04_IsZero.calls a1 t566 _ A24.out).mono ?_); rintro e w' ⟨rfl, ⟨nd, rfl⟩⟩; (try first | exact dn1 | exact dn2))))
         go_meet
         case rel => exact ⟨_, (t566), (by first | rfl | (simp; done) | (simp [*]; done)), H', ⟨by have := HJ7.out; first | omega | exact Nat.le_refl _⟩, ⟨bel⟩⟩
        ·
         replace c23 := Bool.eq_false_iff.mpr c23
         subst c23
         rw [if_neg (show ¬ (false = true) by decide)] at H
         have H' := Aside0.mk H
         clear H
         go_wp2_with (first | (go_at_call 42; (with_reducible refine (gimbalref04_IsZero.calls a0 false _ A22.out).mono ?_); rintro e w' ⟨rfl, ⟨nd, rfl⟩⟩; (try first | exact dn1 | exact dn2)))
         repeat (go_quiet (first | (go_at_call 42; (with_reducible refine (gimbalref04_IsZero.calls a0 false _ A22.out).mono ?_); rintro e w' ⟨rfl, ⟨nd, rfl⟩⟩; (try first | exact dn1 | exact dn2))); try go_wp2_with (first | (go_at_call 42; (with_reducible refine (gimbalref04_IsZero.calls a0 false _ A22.out).mono ?_); rintro e w' ⟨rfl, ⟨nd, rfl⟩⟩; (try first | exact dn1 | exact dn2))))
         go_meet
         case rel => exact ⟨_, (false), (by first | rfl | (simp; done) | (simp [*]; done)), H', ⟨by have := HJ7.out; first | omega | exact Nat.le_refl _⟩, ⟨bel⟩⟩
       case rest =>
        clear HC21
        try clear c1
        try clear c2
        try clear p2
        try clear c4
        try clear c13
        try clear c14
        try clear c15
        try clear c16
        try clear c16b0
        try clear c16b1
        try clear c18
        try clear c20
        try clear c23
        try clear p2
        obtain ⟨kq, x43_20, rfl, HA, HJ20, HB⟩ := hcut
        cases kq with
        | zero => exact absurd HA.out (by simp [gimbalref04_Add.j1])
        | succ kj20 =>
         have H := HA.out
         clear HA
         simp only [gimbalref04_Add.j1] at H
         by_cases c25 : x43_20 = true
         ·
          subst c25
          rw [if_pos rfl] at H
          obtain ⟨t567, A260, H⟩ := Option.bind_eq_some_iff.mp H
          (try dsimp -simprocs only at H)
          have A26 := Aside0.mk A260
          clear A260
          by_cases c27 : t567 = true
          ·
           subst c27
           rw [if_pos rfl] at H
           obtain ⟨t568, A280, H⟩ := Option.bind_eq_some_iff.mp H
           (try dsimp -simprocs only at H)
           have A28 := Aside0.mk A280
           clear A280
           obtain ⟨t569, A290, H⟩ := Option.bind_eq_some_iff.mp H
           (try dsimp -simprocs only at H)
           have A29 := Aside0.mk A290
           clear A290
           simp only [Option.some.injEq, Prod.mk.injEq] at H
           obtain ⟨rfl, rfl⟩ := H
           go_wp2_with (first | (go_at_call 44; (with_reducible refine (gimbalref04_Neg.calls a0 true _ A26.out).mono ?_); rintro e w' ⟨rfl, ⟨nd, rfl⟩⟩; (try first | exact dn1 | exact dn2)) | (go_at_call 44; (with_reducible refine (gimbalref04_Neg.calls a1 t568 _ A28.out).mono ?_); rintro e w' ⟨rfl, ⟨nd, rfl⟩⟩; (try first | exact dn1 | exact dn2)) | (go_at_call 43; (with_reducible refine (gimbalref04_Signed.calls t568 0 t569 _ A29.out).mono ?_); rintro e w' ⟨rfl, ⟨nd, rfl⟩⟩; (try first | exact dn1 | exact dn2)))
           repeat (go_quiet (first | (go_at_call 44; (with_reducible refine (gimbalref04_Neg.calls a0 true _ A26.out).mono ?_); rintro e w' ⟨rfl, ⟨nd, rfl⟩⟩; (try first | exact dn1 | exact dn2)) | (go_at_call 44; (with_reducible refine (gimbalref04_Neg.calls a1 t568 _ A28.out).mono ?_); rintro e w' ⟨rfl, ⟨nd, rfl⟩⟩; (try first | exact dn1 | exact dn2)) | (go_at_call 43; (with_reducible refine (gimbalref04_Signed.calls t568 0 t569 _ A29.out).mono ?_); rintro e w' ⟨rfl, ⟨nd, rfl⟩⟩; (try first | exact dn1 | exact dn2))); try go_wp2_with (first | (go_at_call 44; (with_reducible refine (gimbalref04_Neg.calls a0 true _ A26.out).mono ?_); rintro e w' ⟨rfl, ⟨nd, rfl⟩⟩; (try first | exact dn1 | exact dn2)) | (go_at_call 44; (with_reducible refine (gimbalref04_Neg.calls a1 t568 _ A28.out).mono ?_); rintro e w' ⟨rfl, ⟨nd, rfl⟩⟩; (try first | exact dn1 | exact dn2)) | (go_at_call 43; (with_reducible refine (gimbalref04_Signed.calls t568 0 t569 _ A29.out).mono ?_); rintro e w' ⟨rfl, ⟨nd, rfl⟩⟩; (try first | exact dn1 | exact dn2))))
           go_ret2
           exact ⟨er, bel⟩
          ·
           replace c27 := Bool.eq_false_iff.mpr c27
           subst c27
           rw [if_neg (show ¬ (false = true) by decide)] at H
           obtain ⟨t570, A300, H⟩ := Option.bind_eq_some_iff.mp H
           (try dsimp -simprocs only at H)
           have A30 := Aside0.mk A300
           clear A300
           simp only [Option.some.injEq, Prod.mk.injEq] at H
           obtain ⟨rfl, rfl⟩ := H
           go_wp2_with (first | (go_at_call 44; (with_reducible refine (gimbalref04_Neg.calls a0 false _ A26.out).mono ?_); rintro e w' ⟨rfl, ⟨nd, rfl⟩⟩; (try first | exact dn1 | exact dn2)) | (go_at_call 43; (with_reducible refine (gimbalref04_Signed.calls false 0 t570 _ A30.out).mono ?_); rintro e w' ⟨rfl, ⟨nd, rfl⟩⟩; (try first | exact dn1 | exact dn2)))
           repeat (go_quiet (first | (go_at_call 44; (with_reducible refine (gimbalref04_Neg.calls a0 false _ A26.out).mono ?_); rintro e w' ⟨rfl, ⟨nd, rfl⟩⟩; (try first | exact dn1 | exact dn2)) | (go_at_call 43; (with_reducible refine (gimbalref04_Signed.calls false 0 t570 _ A30.out).mono ?_); rintro e w' ⟨rfl, ⟨nd, rfl⟩⟩; (try first | exact dn1 | exact dn2))); try go_wp2_with (first | (go_at_call 44; (with_reducible refine (gimbalref04_Neg.calls a0 false _ A26.out).mono ?_); rintro e w' ⟨rfl, ⟨nd, rfl⟩⟩; (try first | exact dn1 | exact dn2)) | (go_at_call 43; (with_reducible refine (gimbalref04_Signed.calls false 0 t570 _ A30.out).mono ?_); rintro e w' ⟨rfl, ⟨nd, rfl⟩⟩; (try first | exact dn1 | exact dn2))))
           go_ret2
           exact ⟨er, bel⟩
         ·
          replace c25 := Bool.eq_false_iff.mpr c25
          subst c25
          rw [if_neg (show ¬ (false = true) by decide)] at H
          obtain ⟨t571, A310, H⟩ := Option.bind_eq_some_iff.mp H
          (try dsimp -simprocs only at H)
          have A31 := Aside0.mk A310
          clear A310
          obtain ⟨t574, A320, H⟩ := Option.bind_eq_some_iff.mp H
          (try dsimp -simprocs only at H)
          have A32 := Aside0.mk A320
          clear A320
          obtain ⟨t577, A330, H⟩ := Option.bind_eq_some_iff.mp H
          (try dsimp -simprocs only at H)
          have A33 := Aside0.mk A330
          clear A330
          obtain ⟨t578, A340, H⟩ := Option.bind_eq_some_iff.mp H
          (try dsimp -simprocs only at H)
          have A34 := Aside0.mk A340
          clear A340
          obtain ⟨t581, A350, H⟩ := Option.bind_eq_some_iff.mp H
          (try dsimp -simprocs only at H)
          have A35 := Aside0.mk A350
          clear A350
          obtain ⟨t582, A360, H⟩ := Option.bind_eq_some_iff.mp H
          (try dsimp -simprocs only at H)
          have A36 := Aside0.mk A360
          clear A360
          by_cases c37 : (t581 != t582) = true
          ·
           rw [if_pos c37] at H
           have c37b0 : (t581 != t582) = true := c37
           (try (have c37b1 : decide (t581 = t582) = false := by simpa using c37))
           (try (have c37b2 : (t581 == t582) = false := by simpa using c37))
           (try (have c37b3 : ¬ (t581 = t582) := by simpa using c37))
           clear c37
           obtain ⟨t583, A380, H⟩ := Option.bind_eq_some_iff.mp H
           (try dsimp -simprocs only at H)
           have A38 := Aside0.mk A380
           clear A380
           have HC39 := Aside0.mk H
           clear H
           go_upto_if 68 with (first | (go_at_call 45; (with_reducible refine (gimbalref04_Whole.calls kj20 a0 t571 _ A31.out).mono ?_); rintro e w40 ⟨v572, rfl, ho0, hb⟩; refine ax2 (Kd.R_lower ho0 (below_size bel)) (below_step bel hb) ?_; clear HB; intro HO573 HB; (try clear hb); (try clear ho0)) | (go_at_call 45; (with_reducible refine (gimbalref04_Whole.calls kj20 a1 t574 _ A32.out).mono ?_); rintro e w41 ⟨v575, rfl, ho0, hb⟩; refine ax3 (Kd.R_elder' (kr HO573) (Kd.R_base ho0) hb) (Kd.R_lower (Kd.R_new' ho0 (Kd.R_lt (kr HO573))) (below_size bel)) (below_step bel hb) ?_; clear HO573; clear HB; intro HO573 HO576 HB; (try clear hb); (try clear ho0)) | (go_at_call 44; (with_reducible refine (gimbalref04_Neg.calls a0 t577 _ A33.out).mono ?_); rintro e w' ⟨rfl, ⟨nd, rfl⟩⟩; (try first | exact dn1 | exact dn2); obtain ⟨Ao42, co42, eo42⟩ := Kd.R_slice HO573.out; subst eo42; obtain ⟨Ao43, co43, eo43⟩ := Kd.R_slice HO576.out; subst eo43) | (go_at_call 46; (with_reducible refine (gimbalref02_Add.calls kj20 _ _ t571 _ _ t574 t578 _ ?side1 ?side2 ?side3 ?side4 A34.out).mono ?_); (case side1 => exact ks HO573); (case side2 => exact (Kd.R_reads' HO573.out).2.1); (case side3 => exact ks HO576); (case side4 => exact (Kd.R_reads' HO576.out).2.1); rintro e w44 ⟨v579, rfl, ho0, hb⟩; refine ax4 (Kd.R_elder' (kr HO573) (Kd.R_base ho0) hb) (Kd.R_elder' (kr HO576) (Kd.R_base ho0) hb) (Kd.R_lower (Kd.R_new' (Kd.R_new' ho0 (Kd.R_lt (kr HO573))) (Kd.R_lt (kr HO576))) (below_size bel)) (below_step bel hb) ?_; clear HO573; clear HO576; clear HB; intro HO573 HO576 HO580 HB; (try clear hb); (try clear ho0)) | (go_at_call 44; (with_reducible refine (gimbalref04_Neg.calls a0 t581 _ A35.out).mono ?_); rintro e w' ⟨rfl, ⟨nd, rfl⟩⟩; (try first | exact dn1 | exact dn2)) | (go_at_call 44; (with_reducible refine (gimbalref04_Neg.calls a1 t582 _ A36.out).mono ?_); rintro e w' ⟨rfl, ⟨nd, rfl⟩⟩; (try first | exact dn1 | exact dn2)) | (go_at_call 47; (with_reducible refine (gimbalref02_Cmp.calls kj20 _ _ t571 _ _ t574 t583 _ ?side1 ?side2 ?side3 ?side4 A38.out).mono ?_); (case side1 => exact ks HO573); (case side2 => exact (Kd.R_reads' HO573.out).2.1); (case side3 => exact ks HO576); (case side4 => exact (Kd.R_reads' HO576.out).2.1); rintro e w45 ⟨rfl, hb⟩; refine ax4 (Kd.R_below (kr HO573) hb) (Kd.R_below (kr HO576) hb) (Kd.R_below (kr HO580) hb) (below_step bel hb) ?_; clear HO573; clear HO576; clear HO580; clear HB; intro HO573 HO576 HO580 HB; (try clear hb)))
           repeat (go_quiet (first | (go_at_call 45; (with_reducible refine (gimbalref04_Whole.calls kj20 a0 t571 _ A31.out).mono ?_); rintro e w40 ⟨v572, rfl, ho0, hb⟩; refine ax2 (Kd.R_lower ho0 (below_size bel)) (below_step bel hb) ?_; clear HB; intro HO573 HB; (try clear hb); (try clear ho0)) | (go_at_call 45; (with_reducible refine (gimbalref04_Whole.calls kj20 a1 t574 _ A32.out).mono ?_); rintro e w41 ⟨v575, rfl, ho0, hb⟩; refine ax3 (Kd.R_elder' (kr HO573) (Kd.R_base ho0) hb) (Kd.R_lower (Kd.R_new' ho0 (Kd.R_lt (kr HO573))) (below_size bel)) (below_step bel hb) ?_; clear HO573; clear HB; intro HO573 HO576 HB; (try clear hb); (try clear ho0)) | (go_at_call 44; (with_reducible refine (gimbalref04_Neg.calls a0 t577 _ A33.out).mono ?_); rintro e w' ⟨rfl, ⟨nd, rfl⟩⟩; (try first | exact dn1 | exact dn2); obtain ⟨Ao42, co42, eo42⟩ := Kd.R_slice HO573.out; subst eo42; obtain ⟨Ao43, co43, eo43⟩ := Kd.R_slice HO576.out; subst eo43) | (go_at_call 46; (with_reducible refine (gimbalref02_Add.calls kj20 _ _ t571 _ _ t574 t578 _ ?side1 ?side2 ?side3 ?side4 A34.out).mono ?_); (case side1 => exact ks HO573); (case side2 => exact (Kd.R_reads' HO573.out).2.1); (case side3 => exact ks HO576); (case side4 => exact (Kd.R_reads' HO576.out).2.1); rintro e w44 ⟨v579, rfl, ho0, hb⟩; refine ax4 (Kd.R_elder' (kr HO573) (Kd.R_base ho0) hb) (Kd.R_elder' (kr HO576) (Kd.R_base ho0) hb) (Kd.R_lower (Kd.R_new' (Kd.R_new' ho0 (Kd.R_lt (kr HO573))) (Kd.R_lt (kr HO576))) (below_size bel)) (below_step bel hb) ?_; clear HO573; clear HO576; clear HB; intro HO573 HO576 HO580 HB; (try clear hb); (try clear ho0)) | (go_at_call 44; (with_reducible refine (gimbalref04_Neg.calls a0 t581 _ A35.out).mono ?_); rintro e w' ⟨rfl, ⟨nd, rfl⟩⟩; (try first | exact dn1 | exact dn2)) | (go_at_call 44; (with_reducible refine (gimbalref04_Neg.calls a1 t582 _ A36.out).mono ?_); rintro e w' ⟨rfl, ⟨nd, rfl⟩⟩; (try first | exact dn1 | exact dn2)) | (go_at_call 47; (with_reducible refine (gimbalref02_Cmp.calls kj20 _ _ t571 _ _ t574 t583 _ ?side1 ?side2 ?side3 ?side4 A38.out).mono ?_); (case side1 => exact ks HO573); (case side2 => exact (Kd.R_reads' HO573.out).2.1); (case side3 => exact ks HO576); (case side4 => exact (Kd.R_reads' HO576.out).2.1); rintro e w45 ⟨rfl, hb⟩; refine ax4 (Kd.R_below (kr HO573) hb) (Kd.R_below (kr HO576) hb) (Kd.R_below (kr HO580) hb) (below_step bel hb) ?_; clear HO573; clear HO576; clear HO580; clear HB; intro HO573 HO576 HO580 HB; (try clear hb))); go_upto_if 68 with (first | (go_at_call 45; (with_reducible refine (gimbalref04_Whole.calls kj20 a0 t571 _ A31.out).mono ?_); rintro e w40 ⟨v572, rfl, ho0, hb⟩; refine ax2 (Kd.R_lower ho0 (below_size bel)) (below_step bel hb) ?_; clear HB; intro HO573 HB; (try clear hb); (try clear ho0)) | (go_at_call 45; (with_reducible refine (gimbalref04_Whole.calls kj20 a1 t574 _ A32.out).mono ?_); rintro e w41 ⟨v575, rfl, ho0, hb⟩; refine ax3 (Kd.R_elder' (kr HO573) (Kd.R_base ho0) hb) (Kd.R_lower (Kd.R_new' ho0 (Kd.R_lt (kr HO573))) (below_size bel)) (below_step bel hb) ?_; clear HO573; clear HB; intro HO573 HO576 HB; (try clear hb); (try clear ho0)) | (go_at_call 44; (with_reducible refine (gimbalref04_Neg.calls a0 t577 _ A33.out).mono ?_); rintro e w' ⟨rfl, ⟨nd, rfl⟩⟩; (try first | exact dn1 | exact dn2); obtain ⟨Ao42, co42, eo42⟩ := Kd.R_slice HO573.out; subst eo42; obtain ⟨Ao43, co43, eo43⟩ := Kd.R_slice HO576.out; subst eo43) | (go_at_call 46; (with_reducible refine (gimbalref02_Add.calls kj20 _ _ t571 _ _ t574 t578 _ ?side1 ?side2 ?side3 ?side4 A34.out).mono ?_); (case side1 => exact ks HO573); (case side2 => exact (Kd.R_reads' HO573.out).2.1); (case side3 => exact ks HO576); (case side4 => exact (Kd.R_reads' HO576.out).2.1); rintro e w44 ⟨v579, rfl, ho0, hb⟩; refine ax4 (Kd.R_elder' (kr HO573) (Kd.R_base ho0) hb) (Kd.R_elder' (kr HO576) (Kd.R_base ho0) hb) (Kd.R_lower (Kd.R_new' (Kd.R_new' ho0 (Kd.R_lt (kr HO573))) (Kd.R_lt (kr HO576))) (below_size bel)) (below_step bel hb) ?_; clear HO573; clear HO576; clear HB; intro HO573 HO576 HO580 HB; (try clear hb); (try clear ho0)) | (go_at_call 44; (with_reducible refine (gimbalref04_Neg.calls a0 t581 _ A35.out).mono ?_); rintro e w' ⟨rfl, ⟨nd, rfl⟩⟩; (try first | exact dn1 | exact dn2)) | (go_at_call 44; (with_reducible refine (gimbalref04_Neg.calls a1 t582 _ A36.out).mono ?_); rintro e w' ⟨rfl, ⟨nd, rfl⟩⟩; (try first | exact dn1 | exact dn2)) | (go_at_call 47; (with_reducible refine (gimbalref02_Cmp.calls kj20 _ _ t571 _ _ t574 t583 _ ?side1 ?side2 ?side3 ?side4 A38.out).mono ?_); (case side1 => exact ks HO573); (case side2 => exact (Kd.R_reads' HO573.out).2.1); (case side3 => exact ks HO576); (case side4 => exact (Kd.R_reads' HO576.out).2.1); rintro e w45 ⟨rfl, hb⟩; refine ax4 (Kd.R_below (kr HO573) hb) (Kd.R_below (kr HO576) hb) (Kd.R_below (kr HO580) hb) (below_step bel hb) ?_; clear HO573; clear HO576; clear HO580; clear HB; intro HO573 HO576 HO580 HB; (try clear hb))))
           (try simp only [Act.put, sa0, sa1, sa2])
           go_cut [8, 9, 10] (fun v8 v9 v10 wc => ∃ (kq : Nat) (x8_38 : List Int) (x9_38 : List Int) (x10_38 : Bool), v10 = .bool x10_38 ∧ Aside0 (gimbalref04_Add.j2 kq x8_38 x9_38 x10_38 = some (r1, r2)) ∧ Aside0 (kq ≤ kj20) ∧ Aside0 (Kd.R (Kd.int .i64) 3 wc w.heap.size (fun k_ => some k_ ≠ (v9 : Value).ownBlock) v8 x8_38) ∧ Aside0 (Kd.R (Kd.int .i64) 3 wc w.heap.size (fun k_ => some k_ ≠ (v8 : Value).ownBlock) v9 x9_38) ∧ Aside0 (Below w.heap.size w wc))
           case first =>
            have H := HC39.out
            clear HC39
            by_cases c46 : t583 < 0
            ·
             rw [if_pos c46] at H
             have c46b0 : decide (t583 < 0) = true := decide_eq_true c46
             clear c46
             (first | rw [c46b0] | (simp only [i64_w, i32_w]; rw [c46b0]) | skip)
             obtain ⟨t584, A470, H⟩ := Option.bind_eq_some_iff.mp H
             (try dsimp -simprocs only at H)
             have A47 := Aside0.mk A470
             clear A470
             have H' := Aside0.mk H
             clear H
             go_wp2_with (first | (go_at_call 44; (with_reducible refine (gimbalref04_Neg.calls a1 t584 _ A47.out).mono ?_); rintro e w' ⟨rfl, ⟨nd, rfl⟩⟩; (try first | exact dn1 | exact dn2)))
             repeat (go_quiet (first | (go_at_call 44; (with_reducible refine (gimbalref04_Neg.calls a1 t584 _ A47.out).mono ?_); rintro e w' ⟨rfl, ⟨nd, rfl⟩⟩; (try first | exact dn1 | exact dn2))); try go_wp2_with (first | (go_at_call 44; (with_reducible refine (gimbalref04_Neg.calls a1 t584 _ A47.out).mono ?_); rintro e w' ⟨rfl, ⟨nd, rfl⟩⟩; (try first | exact dn1 | exact dn2))))
             go_meet
             case rel => exact ⟨_, (t574), (t571), (t584), (by first | rfl | (simp; done) | (simp [*]; done)), H', ⟨by have := HJ7.out; have := HJ20.out; first | omega | exact Nat.le_refl _⟩, ⟨by (with_reducible repeat (first | apply Kd.R_alloc | apply Kd.R_drewN | apply Kd.R_drew)); exact Kd.R_mono HO576.out (fun _ hk => hk.1.2)⟩, ⟨by (with_reducible repeat (first | apply Kd.R_alloc | apply Kd.R_drewN | apply Kd.R_drew)); exact Kd.R_mono HO573.out (fun _ hk => hk.1.2)⟩, ⟨bel⟩⟩
            ·
             rw [if_neg c46] at H
             have c46b0 : decide (t583 < 0) = false := decide_eq_false c46
             clear c46
             (first | rw [c46b0] | (simp only [i64_w, i32_w]; rw [c46b0]) | skip)
             have H' := Aside0.mk H
             clear H
             go_wp2
             repeat (go_quiet (fail); try go_wp2)
             go_meet
             case rel => exact ⟨_, (t571), (t574), (t577), (by first | rfl | (simp; done) | (simp [*]; done)), H', ⟨by have := HJ7.out; have := HJ20.out; first | omega | exact Nat.le_refl _⟩, ⟨by (with_reducible repeat (first | apply Kd.R_alloc | apply Kd.R_drewN | apply Kd.R_drew)); exact Kd.R_mono HO573.out (fun _ hk => hk.1.2)⟩, ⟨by (with_reducible repeat (first | apply Kd.R_alloc | apply Kd.R_drewN | apply Kd.R_drew)); exact Kd.R_mono HO576.out (fun _ hk => hk.1.2)⟩, ⟨bel⟩⟩
           case rest =>
            clear HC39
            try clear c1
            try clear c2
            try clear p2
            try clear c3
            try clear c4
            try clear c13
            try clear c14
            try clear c15
            try clear c16
            try clear c16b0
            try clear c16b1
            try clear c18
            try clear c20
            try clear c23
            try clear c25
            try clear c27
            try clear c37
            try clear c37b0
            try clear c37b1
            try clear c37b2
            try clear c46
            try clear c46b0
            try clear p2
            obtain ⟨kq, x8_38, x9_38, x10_38, rfl, HA, HJ38, HO_8, HO_9, HB⟩ := hcut
            cases kq with
            | zero => exact absurd HA.out (by simp [gimbalref04_Add.j2])
            | succ kj38 =>
             have H := HA.out
             clear HA
             simp only [gimbalref04_Add.j2] at H
             obtain ⟨t585, A480, H⟩ := Option.bind_eq_some_iff.mp H
             (try dsimp -simprocs only at H)
             have A48 := Aside0.mk A480
             clear A480
             by_cases c49 : (t585.length : Int) = 0
             ·
              rw [if_pos c49] at H
              have c49b0 : ((t585.length : Int) == 0) = true := beq_iff_eq.mpr c49
              have c49b1 : ((t585.length : Int) != 0) = false := bne_eq_false_iff_eq.mpr c49
              clear c49
              simp only [Option.some.injEq, Prod.mk.injEq] at H
              obtain ⟨rfl, rfl⟩ := H
              obtain ⟨Ao50, co50, eo50⟩ := Kd.R_slice HO_8.out
              subst eo50
              obtain ⟨Ao51, co51, eo51⟩ := Kd.R_slice HO_9.out
              subst eo51
              go_wp2_with (first | (go_at_call 48; (with_reducible refine (gimbalref02_Sub.calls kj38 _ _ x8_38 _ _ x9_38 t585 _ ?side1 ?side2 ?side3 ?side4 A48.out).mono ?_); (case side1 => exact ks HO_8); (case side2 => exact (Kd.R_reads' HO_8.out).2.1); (case side3 => exact ks HO_9); (case side4 => exact (Kd.R_reads' HO_9.out).2.1); rintro e w52 ⟨v586, rfl, ho0, hb⟩; refine ax4 (Kd.R_elder' (kr HO_8) (Kd.R_base ho0) hb) (Kd.R_elder' (kr HO_9) (Kd.R_base ho0) hb) (Kd.R_lower (Kd.R_new' (Kd.R_new' ho0 (Kd.R_lt (kr HO_8))) (Kd.R_lt (kr HO_9))) (below_size bel)) (below_step bel hb) ?_; clear HO_8; clear HO_9; clear HB; intro HO_8 HO_9 HO587 HB; (try clear hb); (try clear ho0); obtain ⟨Ao53, co53, eo53⟩ := Kd.R_slice HO587.out; subst eo53))
              repeat (go_quiet (first | (go_at_call 48; (with_reducible refine (gimbalref02_Sub.calls kj38 _ _ x8_38 _ _ x9_38 t585 _ ?side1 ?side2 ?side3 ?side4 A48.out).mono ?_); (case side1 => exact ks HO_8); (case side2 => exact (Kd.R_reads' HO_8.out).2.1); (case side3 => exact ks HO_9); (case side4 => exact (Kd.R_reads' HO_9.out).2.1); rintro e w52 ⟨v586, rfl, ho0, hb⟩; refine ax4 (Kd.R_elder' (kr HO_8) (Kd.R_base ho0) hb) (Kd.R_elder' (kr HO_9) (Kd.R_base ho0) hb) (Kd.R_lower (Kd.R_new' (Kd.R_new' ho0 (Kd.R_lt (kr HO_8))) (Kd.R_lt (kr HO_9))) (below_size bel)) (below_step bel hb) ?_; clear HO_8; clear HO_9; clear HB; intro HO_8 HO_9 HO587 HB; (try clear hb); (try clear ho0); obtain ⟨Ao53, co53, eo53⟩ := Kd.R_slice HO587.out; subst eo53)); try go_wp2_with (first | (go_at_call 48; (with_reducible refine (gimbalref02_Sub.calls kj38 _ _ x8_38 _ _ x9_38 t585 _ ?side1 ?side2 ?side3 ?side4 A48.out).mono ?_); (case side1 => exact ks HO_8); (case side2 => exact (Kd.R_reads' HO_8.out).2.1); (case side3 => exact ks HO_9); (case side4 => exact (Kd.R_reads' HO_9.out).2.1); rintro e w52 ⟨v586, rfl, ho0, hb⟩; refine ax4 (Kd.R_elder' (kr HO_8) (Kd.R_base ho0) hb) (Kd.R_elder' (kr HO_9) (Kd.R_base ho0) hb) (Kd.R_lower (Kd.R_new' (Kd.R_new' ho0 (Kd.R_lt (kr HO_8))) (Kd.R_lt (kr HO_9))) (below_size bel)) (below_step bel hb) ?_; clear HO_8; clear HO_9; clear HB; intro HO_8 HO_9 HO587 HB; (try clear hb); (try clear ho0); obtain ⟨Ao53, co53, eo53⟩ := Kd.R_slice HO587.out; subst eo53)))
              go_ret2
              exact ⟨er, bel⟩
             ·
              rw [if_neg c49] at H
              have c49b0 : ((t585.length : Int) == 0) = false := beq_eq_false_iff_ne.mpr c49
              have c49b1 : ((t585.length : Int) != 0) = true := bne_iff_ne.mpr c49
              have c49b2 : ¬ (t585 = []) := fun h_ => c49 (by rw [h_]; rfl)
              obtain ⟨⟨t588, t589⟩, A540, H⟩ := Option.bind_eq_some_iff.mp H
              (try dsimp -simprocs only at H)
              have A54 := Aside0.mk A540
              clear A540
              simp only [Option.some.injEq, Prod.mk.injEq] at H
              obtain ⟨rfl, rfl⟩ := H
              obtain ⟨Ao55, co55, eo55⟩ := Kd.R_slice HO_8.out
              subst eo55
              obtain ⟨Ao56, co56, eo56⟩ := Kd.R_slice HO_9.out
              subst eo56
              go_wp2_with (first | (go_at_call 48; (with_reducible refine (gimbalref02_Sub.calls kj38 _ _ x8_38 _ _ x9_38 t585 _ ?side1 ?side2 ?side3 ?side4 A48.out).mono ?_); (case side1 => exact ks HO_8); (case side2 => exact (Kd.R_reads' HO_8.out).2.1); (case side3 => exact ks HO_9); (case side4 => exact (Kd.R_reads' HO_9.out).2.1); rintro e w57 ⟨v586, rfl, ho0, hb⟩; refine ax4 (Kd.R_elder' (kr HO_8) (Kd.R_base ho0) hb) (Kd.R_elder' (kr HO_9) (Kd.R_base ho0) hb) (Kd.R_lower (Kd.R_new' (Kd.R_new' ho0 (Kd.R_lt (kr HO_8))) (Kd.R_lt (kr HO_9))) (below_size bel)) (below_step bel hb) ?_; clear HO_8; clear HO_9; clear HB; intro HO_8 HO_9 HO587 HB; (try clear hb); (try clear ho0); obtain ⟨Ao58, co58, eo58⟩ := Kd.R_slice HO587.out; subst eo58) | (go_at_call 49; (with_reducible refine (gimbalref03_Round.calls kj38 x10_38 _ _ t585 (-1074) false t588 t589 _ ?side1 ?side2 A54.out).mono ?_); (case side1 => exact ks HO587); (case side2 => exact (Kd.R_reads' HO587.out).2.1); rintro e w59 ⟨rfl, hb⟩; refine ax4 (Kd.R_below (kr HO_8) hb) (Kd.R_below (kr HO_9) hb) (Kd.R_below (kr HO587) hb) (below_step bel hb) ?_; clear HO_8; clear HO_9; clear HO587; clear HB; intro HO_8 HO_9 HO587 HB; (try clear hb)) | ((with_reducible refine gate_dst (N := 12) rfl ?_); refine gbox (N := 12) (cs := #[.int .u64 0, .int .i64 0]) (t := 74) ?_; intro gb590 hg w60 hbox hb; refine ax7 (Kd.R_below (kr HO_8) hb) (Kd.R_below (kr HO_9) hb) (Kd.R_below (kr HO587) hb) (below_step bel hb) hbox ((ge hg : w.heap.size ≤ gb590)) ((ge hg : w.heap.size ≤ gb590)) ?_; clear HO_8; clear HO_9; clear HO587; clear HB; intro HO_8 HO_9 HO587 HB BK590 GW590 GE590; clear hb hbox hg; have hcz61_0 := bc BK590 0 rfl; have hcz61_1 := bc BK590 1 rfl; have hfz61_0 := blk_frozen BK590.out 0; have hfz61_1 := blk_frozen BK590.out 1))
              repeat (go_quiet (first | (go_at_call 48; (with_reducible refine (gimbalref02_Sub.calls kj38 _ _ x8_38 _ _ x9_38 t585 _ ?side1 ?side2 ?side3 ?side4 A48.out).mono ?_); (case side1 => exact ks HO_8); (case side2 => exact (Kd.R_reads' HO_8.out).2.1); (case side3 => exact ks HO_9); (case side4 => exact (Kd.R_reads' HO_9.out).2.1); rintro e w57 ⟨v586, rfl, ho0, hb⟩; refine ax4 (Kd.R_elder' (kr HO_8) (Kd.R_base ho0) hb) (Kd.R_elder' (kr HO_9) (Kd.R_base ho0) hb) (Kd.R_lower (Kd.R_new' (Kd.R_new' ho0 (Kd.R_lt (kr HO_8))) (Kd.R_lt (kr HO_9))) (below_size bel)) (below_step bel hb) ?_; clear HO_8; clear HO_9; clear HB; intro HO_8 HO_9 HO587 HB; (try clear hb); (try clear ho0); obtain ⟨Ao58, co58, eo58⟩ := Kd.R_slice HO587.out; subst eo58) | (go_at_call 49; (with_reducible refine (gimbalref03_Round.calls kj38 x10_38 _ _ t585 (-1074) false t588 t589 _ ?side1 ?side2 A54.out).mono ?_); (case side1 => exact ks HO587); (case side2 => exact (Kd.R_reads' HO587.out).2.1); rintro e w59 ⟨rfl, hb⟩; refine ax4 (Kd.R_below (kr HO_8) hb) (Kd.R_below (kr HO_9) hb) (Kd.R_below (kr HO587) hb) (below_step bel hb) ?_; clear HO_8; clear HO_9; clear HO587; clear HB; intro HO_8 HO_9 HO587 HB; (try clear hb)) | ((with_reducible refine gate_dst (N := 12) rfl ?_); refine gbox (N := 12) (cs := #[.int .u64 0, .int .i64 0]) (t := 74) ?_; intro gb590 hg w60 hbox hb; refine ax7 (Kd.R_below (kr HO_8) hb) (Kd.R_below (kr HO_9) hb) (Kd.R_below (kr HO587) hb) (below_step bel hb) hbox ((ge hg : w.heap.size ≤ gb590)) ((ge hg : w.heap.size ≤ gb590)) ?_; clear HO_8; clear HO_9; clear HO587; clear HB; intro HO_8 HO_9 HO587 HB BK590 GW590 GE590; clear hb hbox hg; have hcz61_0 := bc BK590 0 rfl; have hcz61_1 := bc BK590 1 rfl; have hfz61_0 := blk_frozen BK590.out 0; have hfz61_1 := blk_frozen BK590.out 1)); try go_wp2_with (first | (go_at_call 48; (with_reducible refine (gimbalref02_Sub.calls kj38 _ _ x8_38 _ _ x9_38 t585 _ ?side1 ?side2 ?side3 ?side4 A48.out).mono ?_); (case side1 => exact ks HO_8); (case side2 => exact (Kd.R_reads' HO_8.out).2.1); (case side3 => exact ks HO_9); (case side4 => exact (Kd.R_reads' HO_9.out).2.1); rintro e w57 ⟨v586, rfl, ho0, hb⟩; refine ax4 (Kd.R_elder' (kr HO_8) (Kd.R_base ho0) hb) (Kd.R_elder' (kr HO_9) (Kd.R_base ho0) hb) (Kd.R_lower (Kd.R_new' (Kd.R_new' ho0 (Kd.R_lt (kr HO_8))) (Kd.R_lt (kr HO_9))) (below_size bel)) (below_step bel hb) ?_; clear HO_8; clear HO_9; clear HB; intro HO_8 HO_9 HO587 HB; (try clear hb); (try clear ho0); obtain ⟨Ao58, co58, eo58⟩ := Kd.R_slice HO587.out; subst eo58) | (go_at_call 49; (with_reducible refine (gimbalref03_Round.calls kj38 x10_38 _ _ t585 (-1074) false t588 t589 _ ?side1 ?side2 A54.out).mono ?_); (case side1 => exact ks HO587); (case side2 => exact (Kd.R_reads' HO587.out).2.1); rintro e w59 ⟨rfl, hb⟩; refine ax4 (Kd.R_below (kr HO_8) hb) (Kd.R_below (kr HO_9) hb) (Kd.R_below (kr HO587) hb) (below_step bel hb) ?_; clear HO_8; clear HO_9; clear HO587; clear HB; intro HO_8 HO_9 HO587 HB; (try clear hb)) | ((with_reducible refine gate_dst (N := 12) rfl ?_); refine gbox (N := 12) (cs := #[.int .u64 0, .int .i64 0]) (t := 74) ?_; intro gb590 hg w60 hbox hb; refine ax7 (Kd.R_below (kr HO_8) hb) (Kd.R_below (kr HO_9) hb) (Kd.R_below (kr HO587) hb) (below_step bel hb) hbox ((ge hg : w.heap.size ≤ gb590)) ((ge hg : w.heap.size ≤ gb590)) ?_; clear HO_8; clear HO_9; clear HO587; clear HB; intro HO_8 HO_9 HO587 HB BK590 GW590 GE590; clear hb hbox hg; have hcz61_0 := bc BK590 0 rfl; have hcz61_1 := bc BK590 1 rfl; have hfz61_0 := blk_frozen BK590.out 0; have hfz61_1 := blk_frozen BK590.out 1)))
              go_ret2
              exact ⟨er, bes⟩
          ·
           rw [if_neg c37] at H
           have c37b0 : (t581 != t582) = false := by simpa using c37
           (try (have c37b1 : decide (t581 = t582) = true := by simpa using c37))
           (try (have c37b2 : (t581 == t582) = true := by simpa using c37))
           clear c37
           obtain ⟨⟨t591, t592⟩, A620, H⟩ := Option.bind_eq_some_iff.mp H
           (try dsimp -simprocs only at H)
           have A62 := Aside0.mk A620
           clear A620
           simp only [Option.some.injEq, Prod.mk.injEq] at H
           obtain ⟨rfl, rfl⟩ := H
           go_wp2_with (first | (go_at_call 45; (with_reducible refine (gimbalref04_Whole.calls kj20 a0 t571 _ A31.out).mono ?_); rintro e w63 ⟨v572, rfl, ho0, hb⟩; refine ax2 (Kd.R_lower ho0 (below_size bel)) (below_step bel hb) ?_; clear HB; intro HO573 HB; (try clear hb); (try clear ho0)) | (go_at_call 45; (with_reducible refine (gimbalref04_Whole.calls kj20 a1 t574 _ A32.out).mono ?_); rintro e w64 ⟨v575, rfl, ho0, hb⟩; refine ax3 (Kd.R_elder' (kr HO573) (Kd.R_base ho0) hb) (Kd.R_lower (Kd.R_new' ho0 (Kd.R_lt (kr HO573))) (below_size bel)) (below_step bel hb) ?_; clear HO573; clear HB; intro HO573 HO576 HB; (try clear hb); (try clear ho0)) | (go_at_call 44; (with_reducible refine (gimbalref04_Neg.calls a0 t577 _ A33.out).mono ?_); rintro e w' ⟨rfl, ⟨nd, rfl⟩⟩; (try first | exact dn1 | exact dn2); obtain ⟨Ao65, co65, eo65⟩ := Kd.R_slice HO573.out; subst eo65; obtain ⟨Ao66, co66, eo66⟩ := Kd.R_slice HO576.out; subst eo66) | (go_at_call 46; (with_reducible refine (gimbalref02_Add.calls kj20 _ _ t571 _ _ t574 t578 _ ?side1 ?side2 ?side3 ?side4 A34.out).mono ?_); (case side1 => exact ks HO573); (case side2 => exact (Kd.R_reads' HO573.out).2.1); (case side3 => exact ks HO576); (case side4 => exact (Kd.R_reads' HO576.out).2.1); rintro e w67 ⟨v579, rfl, ho0, hb⟩; refine ax4 (Kd.R_elder' (kr HO573) (Kd.R_base ho0) hb) (Kd.R_elder' (kr HO576) (Kd.R_base ho0) hb) (Kd.R_lower (Kd.R_new' (Kd.R_new' ho0 (Kd.R_lt (kr HO573))) (Kd.R_lt (kr HO576))) (below_size bel)) (below_step bel hb) ?_; clear HO573; clear HO576; clear HB; intro HO573 HO576 HO580 HB; (try clear hb); (try clear ho0)) | (go_at_call 44; (with_reducible refine (gimbalref04_Neg.calls a0 t581 _ A35.out).mono ?_); rintro e w' ⟨rfl, ⟨nd, rfl⟩⟩; (try first | exact dn1 | exact dn2)) | (go_at_call 44; (with_reducible refine (gimbalref04_Neg.calls a1 t582 _ A36.out).mono ?_); rintro e w' ⟨rfl, ⟨nd, rfl⟩⟩; (try first | exact dn1 | exact dn2); obtain ⟨Ao68, co68, eo68⟩ := Kd.R_slice HO580.out; subst eo68) | (go_at_call 49; (with_reducible refine (gimbalref03_Round.calls kj20 t577 _ _ t578 (-1074) false t591 t592 _ ?side1 ?side2 A62.out).mono ?_); (case side1 => exact ks HO580); (case side2 => exact (Kd.R_reads' HO580.out).2.1); rintro e w69 ⟨rfl, hb⟩; refine ax4 (Kd.R_below (kr HO573) hb) (Kd.R_below (kr HO576) hb) (Kd.R_below (kr HO580) hb) (below_step bel hb) ?_; clear HO573; clear HO576; clear HO580; clear HB; intro HO573 HO576 HO580 HB; (try clear hb)) | ((with_reducible refine gate_dst (N := 12) rfl ?_); refine gbox (N := 12) (cs := #[.int .u64 0, .int .i64 0]) (t := 74) ?_; intro gb593 hg w70 hbox hb; refine ax7 (Kd.R_below (kr HO573) hb) (Kd.R_below (kr HO576) hb) (Kd.R_below (kr HO580) hb) (below_step bel hb) hbox ((ge hg : w.heap.size ≤ gb593)) ((ge hg : w.heap.size ≤ gb593)) ?_; clear HO573; clear HO576; clear HO580; clear HB; intro HO573 HO576 HO580 HB BK593 GW593 GE593; clear hb hbox hg; have hcz71_0 := bc BK593 0 rfl; have hcz71_1 := bc BK593 1 rfl; have hfz71_0 := blk_frozen BK593.out 0; have hfz71_1 := blk_frozen BK593.out 1))
           repeat (go_quiet (first | (go_at_call 45; (with_reducible refine (gimbalref04_Whole.calls kj20 a0 t571 _ A31.out).mono ?_); rintro e w63 ⟨v572, rfl, ho0, hb⟩; refine ax2 (Kd.R_lower ho0 (below_size bel)) (below_step bel hb) ?_; clear HB; intro HO573 HB; (try clear hb); (try clear ho0)) | (go_at_call 45; (with_reducible refine (gimbalref04_Whole.calls kj20 a1 t574 _ A32.out).mono ?_); rintro e w64 ⟨v575, rfl, ho0, hb⟩; refine ax3 (Kd.R_elder' (kr HO573) (Kd.R_base ho0) hb) (Kd.R_lower (Kd.R_new' ho0 (Kd.R_lt (kr HO573))) (below_size bel)) (below_step bel hb) ?_; clear HO573; clear HB; intro HO573 HO576 HB; (try clear hb); (try clear ho0)) | (go_at_call 44; (with_reducible refine (gimbalref04_Neg.calls a0 t577 _ A33.out).mono ?_); rintro e w' ⟨rfl, ⟨nd, rfl⟩⟩; (try first | exact dn1 | exact dn2); obtain ⟨Ao65, co65, eo65⟩ := Kd.R_slice HO573.out; subst eo65; obtain ⟨Ao66, co66, eo66⟩ := Kd.R_slice HO576.out; subst eo66) | (go_at_call 46; (with_reducible refine (gimbalref02_Add.calls kj20 _ _ t571 _ _ t574 t578 _ ?side1 ?side2 ?side3 ?side4 A34.out).mono ?_); (case side1 => exact ks HO573); (case side2 => exact (Kd.R_reads' HO573.out).2.1); (case side3 => exact ks HO576); (case side4 => exact (Kd.R_reads' HO576.out).2.1); rintro e w67 ⟨v579, rfl, ho0, hb⟩; refine ax4 (Kd.R_elder' (kr HO573) (Kd.R_base ho0) hb) (Kd.R_elder' (kr HO576) (Kd.R_base ho0) hb) (Kd.R_lower (Kd.R_new' (Kd.R_new' ho0 (Kd.R_lt (kr HO573))) (Kd.R_lt (kr HO576))) (below_size bel)) (below_step bel hb) ?_; clear HO573; clear HO576; clear HB; intro HO573 HO576 HO580 HB; (try clear hb); (try clear ho0)) | (go_at_call 44; (with_reducible refine (gimbalref04_Neg.calls a0 t581 _ A35.out).mono ?_); rintro e w' ⟨rfl, ⟨nd, rfl⟩⟩; (try first | exact dn1 | exact dn2)) | (go_at_call 44; (with_reducible refine (gimbalref04_Neg.calls a1 t582 _ A36.out).mono ?_); rintro e w' ⟨rfl, ⟨nd, rfl⟩⟩; (try first | exact dn1 | exact dn2); obtain ⟨Ao68, co68, eo68⟩ := Kd.R_slice HO580.out; subst eo68) | (go_at_call 49; (with_reducible refine (gimbalref03_Round.calls kj20 t577 _ _ t578 (-1074) false t591 t592 _ ?side1 ?side2 A62.out).mono ?_); (case side1 => exact ks HO580); (case side2 => exact (Kd.R_reads' HO580.out).2.1); rintro e w69 ⟨rfl, hb⟩; refine ax4 (Kd.R_below (kr HO573) hb) (Kd.R_below (kr HO576) hb) (Kd.R_below (kr HO580) hb) (below_step bel hb) ?_; clear HO573; clear HO576; clear HO580; clear HB; intro HO573 HO576 HO580 HB; (try clear hb)) | ((with_reducible refine gate_dst (N := 12) rfl ?_); refine gbox (N := 12) (cs := #[.int .u64 0, .int .i64 0]) (t := 74) ?_; intro gb593 hg w70 hbox hb; refine ax7 (Kd.R_below (kr HO573) hb) (Kd.R_below (kr HO576) hb) (Kd.R_below (kr HO580) hb) (below_step bel hb) hbox ((ge hg : w.heap.size ≤ gb593)) ((ge hg : w.heap.size ≤ gb593)) ?_; clear HO573; clear HO576; clear HO580; clear HB; intro HO573 HO576 HO580 HB BK593 GW593 GE593; clear hb hbox hg; have hcz71_0 := bc BK593 0 rfl; have hcz71_1 := bc BK593 1 rfl; have hfz71_0 := blk_frozen BK593.out 0; have hfz71_1 := blk_frozen BK593.out 1)); try go_wp2_with (first | (go_at_call 45; (with_reducible refine (gimbalref04_Whole.calls kj20 a0 t571 _ A31.out).mono ?_); rintro e w63 ⟨v572, rfl, ho0, hb⟩; refine ax2 (Kd.R_lower ho0 (below_size bel)) (below_step bel hb) ?_; clear HB; intro HO573 HB; (try clear hb); (try clear ho0)) | (go_at_call 45; (with_reducible refine (gimbalref04_Whole.calls kj20 a1 t574 _ A32.out).mono ?_); rintro e w64 ⟨v575, rfl, ho0, hb⟩; refine ax3 (Kd.R_elder' (kr HO573) (Kd.R_base ho0) hb) (Kd.R_lower (Kd.R_new' ho0 (Kd.R_lt (kr HO573))) (below_size bel)) (below_step bel hb) ?_; clear HO573; clear HB; intro HO573 HO576 HB; (try clear hb); (try clear ho0)) | (go_at_call 44; (with_reducible refine (gimbalref04_Neg.calls a0 t577 _ A33.out).mono ?_); rintro e w' ⟨rfl, ⟨nd, rfl⟩⟩; (try first | exact dn1 | exact dn2); obtain ⟨Ao65, co65, eo65⟩ := Kd.R_slice HO573.out; subst eo65; obtain ⟨Ao66, co66, eo66⟩ := Kd.R_slice HO576.out; subst eo66) | (go_at_call 46; (with_reducible refine (gimbalref02_Add.calls kj20 _ _ t571 _ _ t574 t578 _ ?side1 ?side2 ?side3 ?side4 A34.out).mono ?_); (case side1 => exact ks HO573); (case side2 => exact (Kd.R_reads' HO573.out).2.1); (case side3 => exact ks HO576); (case side4 => exact (Kd.R_reads' HO576.out).2.1); rintro e w67 ⟨v579, rfl, ho0, hb⟩; refine ax4 (Kd.R_elder' (kr HO573) (Kd.R_base ho0) hb) (Kd.R_elder' (kr HO576) (Kd.R_base ho0) hb) (Kd.R_lower (Kd.R_new' (Kd.R_new' ho0 (Kd.R_lt (kr HO573))) (Kd.R_lt (kr HO576))) (below_size bel)) (below_step bel hb) ?_; clear HO573; clear HO576; clear HB; intro HO573 HO576 HO580 HB; (try clear hb); (try clear ho0)) | (go_at_call 44; (with_reducible refine (gimbalref04_Neg.calls a0 t581 _ A35.out).mono ?_); rintro e w' ⟨rfl, ⟨nd, rfl⟩⟩; (try first | exact dn1 | exact dn2)) | (go_at_call 44; (with_reducible refine (gimbalref04_Neg.calls a1 t582 _ A36.out).mono ?_); rintro e w' ⟨rfl, ⟨nd, rfl⟩⟩; (try first | exact dn1 | exact dn2); obtain ⟨Ao68, co68, eo68⟩ := Kd.R_slice HO580.out; subst eo68) | (go_at_call 49; (with_reducible refine (gimbalref03_Round.calls kj20 t577 _ _ t578 (-1074) false t591 t592 _ ?side1 ?side2 A62.out).mono ?_); (case side1 => exact ks HO580); (case side2 => exact (Kd.R_reads' HO580.out).2.1); rintro e w69 ⟨rfl, hb⟩; refine ax4 (Kd.R_below (kr HO573) hb) (Kd.R_below (kr HO576) hb) (Kd.R_below (kr HO580) hb) (below_step bel hb) ?_; clear HO573; clear HO576; clear HO580; clear HB; intro HO573 HO576 HO580 HB; (try clear hb)) | ((with_reducible refine gate_dst (N := 12) rfl ?_); refine gbox (N := 12) (cs := #[.int .u64 0, .int .i64 0]) (t := 74) ?_; intro gb593 hg w70 hbox hb; refine ax7 (Kd.R_below (kr HO573) hb) (Kd.R_below (kr HO576) hb) (Kd.R_below (kr HO580) hb) (below_step bel hb) hbox ((ge hg : w.heap.size ≤ gb593)) ((ge hg : w.heap.size ≤ gb593)) ?_; clear HO573; clear HO576; clear HO580; clear HB; intro HO573 HO576 HO580 HB BK593 GW593 GE593; clear hb hbox hg; have hcz71_0 := bc BK593 0 rfl; have hcz71_1 := bc BK593 1 rfl; have hfz71_0 := blk_frozen BK593.out 0; have hfz71_1 := blk_frozen BK593.out 1)))
           go_ret2
           exact ⟨er, bes⟩

/-! ### gimbalref04_Mul: function 15 -/
mutual
def gimbalref04_Mul.j0 : Nat → Int → Int → Bool → Bool → Option (Int × Int)
 | 0, _, _, _, _ => none
 | k + 1, x0, x1, x8, x43 => if x43 = true then (some (9221120237041090560, 16)) else ((gimbalref04_IsInf.f x0).bind fun t617 => (if t617 = true then (gimbalref04_Mul.j1 k x0 x1 x8 true) else ((gimbalref04_IsInf.f x1).bind fun t618 => (gimbalref04_Mul.j1 k x0 x1 x8 t618))))
def gimbalref04_Mul.j1 : Nat → Int → Int → Bool → Bool → Option (Int × Int)
 | 0, _, _, _, _ => none
 | k + 1, x0, x1, x8, x49 => if x49 = true then ((gimbalref04_Signed.f x8 9218868437227405312).bind fun t619 => (some (t619, 0))) else ((gimbalref04_Parts.f x0).bind fun bt620 => ((gimbalref04_Parts.f x1).bind fun bt623 => (if bt620.2.1 > 0 then (gimbalref04_Mul.j2 k x8 (wrap64 (bt620.2.1 - 1)) (IntKind.u64.wrap (bt620.2.2 + 4503599627370496)) bt623.2.1 bt623.2.2) else (gimbalref04_Mul.j2 k x8 bt620.2.1 bt620.2.2 bt623.2.1 bt623.2.2))))
def gimbalref04_Mul.j2 : Nat → Bool → Int → Int → Int → Int → Option (Int × Int)
 | 0, _, _, _, _, _ => none
 | k + 1, x8, x10, x11, x13, x14 => if x13 > 0 then (gimbalref04_Mul.j3 k x8 x10 x11 (wrap64 (x13 - 1)) (IntKind.u64.wrap (x14 + 4503599627370496))) else (gimbalref04_Mul.j3 k x8 x10 x11 x13 x14)
def gimbalref04_Mul.j3 : Nat → Bool → Int → Int → Int → Int → Option (Int × Int)
 | 0, _, _, _, _, _ => none
 | k + 1, x8, x10, x11, x13, x14 => (gimbalref02_Of.f k x11).bind fun t626 => ((gimbalref02_Of.f k x14).bind fun t629 => ((gimbalref02_Mul.f k t626 t629).bind fun t632 => ((gimbalref03_Round.f k x8 t632 (wrap64 ((wrap64 (x10 + x13)) - 2148)) false).bind fun bt635 => (some (bt635.1, bt635.2)))))
end
def gimbalref04_Mul.f (k : Nat) (a0 : Int) (a1 : Int) : Option (Int × Int) := (gimbalref04_Nans.f k (([a0, a1] : List Int))).bind fun bt607 => (if bt607.2 = true then (some (9221120237041090560, bt607.1)) else ((gimbalref04_Neg.f a0).bind fun t609 => ((gimbalref04_Neg.f a1).bind fun t610 => ((gimbalref04_IsInf.f a0).bind fun t611 => (if t611 = true then ((gimbalref04_IsZero.f a1).bind fun t612 => (if t612 = true then (gimbalref04_Mul.j0 k a0 a1 (t609 != t610) true) else ((gimbalref04_IsZero.f a0).bind fun t613 => (if t613 = true then ((gimbalref04_IsInf.f a1).bind fun t614 => (gimbalref04_Mul.j0 k a0 a1 (t609 != t610) t614)) else (gimbalref04_Mul.j0 k a0 a1 (t609 != t610) false))))) else ((gimbalref04_IsZero.f a0).bind fun t615 => (if t615 = true then ((gimbalref04_IsInf.f a1).bind fun t616 => (gimbalref04_Mul.j0 k a0 a1 (t609 != t610) t616)) else (gimbalref04_Mul.j0 k a0 a1 (t609 != t610) false))))))))
theorem gimbalref04_Mul.mono_l : ∀ k, (∀ y0 y1 y2 y3, LeO (gimbalref04_Mul.j0 k y0 y1 y2 y3) (gimbalref04_Mul.j0 (k + 1) y0 y1 y2 y3)) ∧ (∀ y0 y1 y2 y3, LeO (gimbalref04_Mul.j1 k y0 y1 y2 y3) (gimbalref04_Mul.j1 (k + 1) y0 y1 y2 y3)) ∧ (∀ y0 y1 y2 y3 y4, LeO (gimbalref04_Mul.j2 k y0 y1 y2 y3 y4) (gimbalref04_Mul.j2 (k + 1) y0 y1 y2 y3 y4)) ∧ (∀ y0 y1 y2 y3 y4, LeO (gimbalref04_Mul.j3 k y0 y1 y2 y3 y4) (gimbalref04_Mul.j3 (k + 1) y0 y1 y2 y3 y4))
 | 0 => ⟨fun _ _ _ _ r h => by simp [gimbalref04_Mul.j0] at h, fun _ _ _ _ r h => by simp [gimbalref04_Mul.j1] at h, fun _ _ _ _ _ r h => by simp [gimbalref04_Mul.j2] at h, fun _ _ _ _ _ r h => by simp [gimbalref04_Mul.j3] at h⟩
 | k + 1 => by
  obtain ⟨ih0, ih1, ih2, ih3⟩ := gimbalref04_Mul.mono_l k
  refine ⟨?_, ?_, ?_, ?_⟩ <;> intros <;> (first | unfold gimbalref04_Mul.j0 | unfold gimbalref04_Mul.j1 | unfold gimbalref04_Mul.j2 | unfold gimbalref04_Mul.j3) <;>
   repeat' with_reducible first | apply ih0 | apply ih1 | apply ih2 | apply ih3 | apply gimbalref02_Mul.mono | apply gimbalref02_Of.mono | apply gimbalref03_Round.mono | apply gimbalref04_Nans.mono | exact LeO.refl _ | exact LeO.none _ | refine LeO.ite ?_ ?_ | refine LeO.bind ?_ (fun _ => ?_)
theorem gimbalref04_Mul.mono : ∀ a0 a1 k, LeO (gimbalref04_Mul.f k a0 a1) (gimbalref04_Mul.f (k + 1) a0 a1) := by
 intro a0 a1 k
 obtain ⟨ih0, ih1, ih2, ih3⟩ := gimbalref04_Mul.mono_l k
 unfold gimbalref04_Mul.f
 repeat' with_reducible first | apply ih0 | apply ih1 | apply ih2 | apply ih3 | apply gimbalref02_Mul.mono | apply gimbalref02_Of.mono | apply gimbalref03_Round.mono | apply gimbalref04_Nans.mono | exact LeO.refl _ | exact LeO.none _ | refine LeO.ite ?_ ?_ | refine LeO.bind ?_ (fun _ => ?_)
set_option maxHeartbeats 8000000 in
set_option maxRecDepth 100000 in
theorem gimbalref04_Mul.calls (k : Nat) (a0 : Int) (a1 : Int) (r1 : Int) (r2 : Int) (w : World) (h : gimbalref04_Mul.f k a0 a1 = some (r1, r2)) :
  Calls Tryd.prog 15 #[.int .u64 a0, .int .u64 a1] w fun e w' => e = .returned (.tuple #[.int .u64 r1, .int .i64 r2]) ∧ Below w.heap.size w w' := by
 have hu74 := Tryd.underlying74
 have HB := Aside0.mk (Below.refl w.heap.size w)
 have H : ((gimbalref04_Nans.f k (([a0, a1] : List Int))).bind fun bt607 => (if bt607.2 = true then (some (9221120237041090560, bt607.1)) else ((gimbalref04_Neg.f a0).bind fun t609 => ((gimbalref04_Neg.f a1).bind fun t610 => ((gimbalref04_IsInf.f a0).bind fun t611 => (if t611 = true then ((gimbalref04_IsZero.f a1).bind fun t612 => (if t612 = true then (gimbalref04_Mul.j0 k a0 a1 (t609 != t610) true) else ((gimbalref04_IsZero.f a0).bind fun t613 => (if t613 = true then ((gimbalref04_IsInf.f a1).bind fun t614 => (gimbalref04_Mul.j0 k a0 a1 (t609 != t610) t614)) else (gimbalref04_Mul.j0 k a0 a1 (t609 != t610) false))))) else ((gimbalref04_IsZero.f a0).bind fun t615 => (if t615 = true then ((gimbalref04_IsInf.f a1).bind fun t616 => (gimbalref04_Mul.j0 k a0 a1 (t609 != t610) t616)) else (gimbalref04_Mul.j0 k a0 a1 (t609 != t610) false))))))))) = some (r1, r2) := h
 clear h
 obtain ⟨y604, hy604⟩ : ∃ y_ : List Int, y_ = (([a0, a1] : List Int)) := ⟨_, rfl⟩
 replace H : ((gimbalref04_Nans.f k y604).bind fun bt607 => (if bt607.2 = true then (some (9221120237041090560, bt607.1)) else ((gimbalref04_Neg.f a0).bind fun t609 => ((gimbalref04_Neg.f a1).bind fun t610 => ((gimbalref04_IsInf.f a0).bind fun t611 => (if t611 = true then ((gimbalref04_IsZero.f a1).bind fun t612 => (if t612 = true then (gimbalref04_Mul.j0 k a0 a1 (t609 != t610) true) else ((gimbalref04_IsZero.f a0).bind fun t613 => (if t613 = true then ((gimbalref04_IsInf.f a1).bind fun t614 => (gimbalref04_Mul.j0 k a0 a1 (t609 != t610) t614)) else (gimbalref04_Mul.j0 k a0 a1 (t609 != t610) false))))) else ((gimbalref04_IsZero.f a0).bind fun t615 => (if t615 = true then ((gimbalref04_IsInf.f a1).bind fun t616 => (gimbalref04_Mul.j0 k a0 a1 (t609 != t610) t616)) else (gimbalref04_Mul.j0 k a0 a1 (t609 != t610) false))))))))) = some (r1, r2) := by first | (rw [hy604]; with_reducible exact H) | (have H2_ := (Option.bind_some _ _).symm.trans H; rw [hy604]; with_reducible exact H2_) | (have H2_ := (Option.bind_some _ _).symm.trans H; with_reducible exact H2_) | with_reducible exact H | (rw [hy604]; exact H) | exact H
 have Ny604 := Aside0.mk hy604
 clear hy604
 obtain ⟨⟨t607, t608⟩, A30, H⟩ := Option.bind_eq_some_iff.mp H
 (try dsimp -simprocs only at H)
 have A3 := Aside0.mk A30
 clear A30
 by_cases c4 : t608 = true
 ·
  subst c4
  rw [if_pos rfl] at H
  simp only [Option.some.injEq, Prod.mk.injEq] at H
  obtain ⟨rfl, rfl⟩ := H
  go_enter Tryd.func15, Tryd.ntmps15
  go_wp2_with (first | ((with_reducible refine gate_dst (N := 19) rfl ?_); refine Kd.R_lit (Kd.int .u64) _ 22 ?hg (N := 19) ?hd (xs := ([a0, a1] : List Int)) (inner := [.int .u64 a0, .int .u64 a1]) (ok := fun _ => True) (okp := fun _ => True) ?hr ?hp (fun _ hk => hk) trivial (Below.refl _ _) (Nat.le_refl _) (by simp) ?_; (case hd => rfl); (case hg => rfl); (case hr => first | (go_simp; done) | (go_simp; rfl)); (case hp => exact (Reps.one (show Kd.M (Kd.int .u64) _ _ _ a0 [.int .u64 a0] from rfl) (Reps.one (show Kd.M (Kd.int .u64) _ _ _ a1 [.int .u64 a1] from rfl) (Reps.none _ _)))); intro v605 w5 ho6 hb hg_ hnew_; clear hg_ hnew_; (first | rw [← Ny604.out] at ho6 | (simp only [Int.reduceToNat] at ho6; rw [← Ny604.out] at ho6)); refine ax2 (Kd.R_lower ho6 (below_size bel)) (below_step bel hb) ?_; clear HB; intro HO606 HB; clear hb ho6; obtain ⟨Ao7, co7, eo7⟩ := Kd.R_slice HO606.out; subst eo7) | (go_at_call 40; (with_reducible refine (gimbalref04_Nans.calls k _ _ y604 t607 true _ ?side1 ?side2 A3.out).mono ?_); (case side1 => exact ks HO606); (case side2 => exact (Kd.R_reads' HO606.out).2.1); rintro e w' ⟨rfl, ⟨nd, rfl⟩⟩; (try first | exact dn1 | exact dn2)))
  repeat (go_quiet (first | ((with_reducible refine gate_dst (N := 19) rfl ?_); refine Kd.R_lit (Kd.int .u64) _ 22 ?hg (N := 19) ?hd (xs := ([a0, a1] : List Int)) (inner := [.int .u64 a0, .int .u64 a1]) (ok := fun _ => True) (okp := fun _ => True) ?hr ?hp (fun _ hk => hk) trivial (Below.refl _ _) (Nat.le_refl _) (by simp) ?_; (case hd => rfl); (case hg => rfl); (case hr => first | (go_simp; done) | (go_simp; rfl)); (case hp => exact (Reps.one (show Kd.M (Kd.int .u64) _ _ _ a0 [.int .u64 a0] from rfl) (Reps.one (show Kd.M (Kd.int .u64) _ _ _ a1 [.int .u64 a1] from rfl) (Reps.none _ _)))); intro v605 w5 ho6 hb hg_ hnew_; clear hg_ hnew_; (first | rw [← Ny604.out] at ho6 | (simp only [Int.reduceToNat] at ho6; rw [← Ny604.out] at ho6)); refine ax2 (Kd.R_lower ho6 (below_size bel)) (below_step bel hb) ?_; clear HB; intro HO606 HB; clear hb ho6; obtain ⟨Ao7, co7, eo7⟩ := Kd.R_slice HO606.out; subst eo7) | (go_at_call 40; (with_reducible refine (gimbalref04_Nans.calls k _ _ y604 t607 true _ ?side1 ?side2 A3.out).mono ?_); (case side1 => exact ks HO606); (case side2 => exact (Kd.R_reads' HO606.out).2.1); rintro e w' ⟨rfl, ⟨nd, rfl⟩⟩; (try first | exact dn1 | exact dn2))); try go_wp2_with (first | ((with_reducible refine gate_dst (N := 19) rfl ?_); refine Kd.R_lit (Kd.int .u64) _ 22 ?hg (N := 19) ?hd (xs := ([a0, a1] : List Int)) (inner := [.int .u64 a0, .int .u64 a1]) (ok := fun _ => True) (okp := fun _ => True) ?hr ?hp (fun _ hk => hk) trivial (Below.refl _ _) (Nat.le_refl _) (by simp) ?_; (case hd => rfl); (case hg => rfl); (case hr => first | (go_simp; done) | (go_simp; rfl)); (case hp => exact (Reps.one (show Kd.M (Kd.int .u64) _ _ _ a0 [.int .u64 a0] from rfl) (Reps.one (show Kd.M (Kd.int .u64) _ _ _ a1 [.int .u64 a1] from rfl) (Reps.none _ _)))); intro v605 w5 ho6 hb hg_ hnew_; clear hg_ hnew_; (first | rw [← Ny604.out] at ho6 | (simp only [Int.reduceToNat] at ho6; rw [← Ny604.out] at ho6)); refine ax2 (Kd.R_lower ho6 (below_size bel)) (below_step bel hb) ?_; clear HB; intro HO606 HB; clear hb ho6; obtain ⟨Ao7, co7, eo7⟩ := Kd.R_slice HO606.out; subst eo7) | (go_at_call 40; (with_reducible refine (gimbalref04_Nans.calls k _ _ y604 t607 true _ ?side1 ?side2 A3.out).mono ?_); (case side1 => exact ks HO606); (case side2 => exact (Kd.R_reads' HO606.out).2.1); rintro e w' ⟨rfl, ⟨nd, rfl⟩⟩; (try first | exact dn1 | exact dn2))))
  go_ret2
  exact ⟨er, bel⟩
 ·
  replace c4 := Bool.eq_false_iff.mpr c4
  subst c4
  rw [if_neg (show ¬ (false = true) by decide)] at H
  obtain ⟨t609, A80, H⟩ := Option.bind_eq_some_iff.mp H
  (try dsimp -simprocs only at H)
  have A8 := Aside0.mk A80
  clear A80
  obtain ⟨t610, A90, H⟩ := Option.bind_eq_some_iff.mp H
  (try dsimp -simprocs only at H)
  have A9 := Aside0.mk A90
  clear A90
  have HC10 := Aside0.mk H
  clear H
  go_enter Tryd.func15, Tryd.ntmps15
  go_upto_region 5 with (first | ((with_reducible refine gate_dst (N := 19) rfl ?_); refine Kd.R_lit (Kd.int .u64) _ 22 ?hg (N := 19) ?hd (xs := ([a0, a1] : List Int)) (inner := [.int .u64 a0, .int .u64 a1]) (ok := fun _ => True) (okp := fun _ => True) ?hr ?hp (fun _ hk => hk) trivial (Below.refl _ _) (Nat.le_refl _) (by simp) ?_; (case hd => rfl); (case hg => rfl); (case hr => first | (go_simp; done) | (go_simp; rfl)); (case hp => exact (Reps.one (show Kd.M (Kd.int .u64) _ _ _ a0 [.int .u64 a0] from rfl) (Reps.one (show Kd.M (Kd.int .u64) _ _ _ a1 [.int .u64 a1] from rfl) (Reps.none _ _)))); intro v605 w11 ho12 hb hg_ hnew_; clear hg_ hnew_; (first | rw [← Ny604.out] at ho12 | (simp only [Int.reduceToNat] at ho12; rw [← Ny604.out] at ho12)); refine ax2 (Kd.R_lower ho12 (below_size bel)) (below_step bel hb) ?_; clear HB; intro HO606 HB; clear hb ho12; obtain ⟨Ao13, co13, eo13⟩ := Kd.R_slice HO606.out; subst eo13) | (go_at_call 40; (with_reducible refine (gimbalref04_Nans.calls k _ _ y604 t607 false _ ?side1 ?side2 A3.out).mono ?_); (case side1 => exact ks HO606); (case side2 => exact (Kd.R_reads' HO606.out).2.1); rintro e w' ⟨rfl, ⟨nd, rfl⟩⟩; (try first | exact dn1 | exact dn2)) | (go_at_call 44; (with_reducible refine (gimbalref04_Neg.calls a0 t609 _ A8.out).mono ?_); rintro e w' ⟨rfl, ⟨nd, rfl⟩⟩; (try first | exact dn1 | exact dn2)) | (go_at_call 44; (with_reducible refine (gimbalref04_Neg.calls a1 t610 _ A9.out).mono ?_); rintro e w' ⟨rfl, ⟨nd, rfl⟩⟩; (try first | exact dn1 | exact dn2)))
  repeat (go_quiet (first | ((with_reducible refine gate_dst (N := 19) rfl ?_); refine Kd.R_lit (Kd.int .u64) _ 22 ?hg (N := 19) ?hd (xs := ([a0, a1] : List Int)) (inner := [.int .u64 a0, .int .u64 a1]) (ok := fun _ => True) (okp := fun _ => True) ?hr ?hp (fun _ hk => hk) trivial (Below.refl _ _) (Nat.le_refl _) (by simp) ?_; (case hd => rfl); (case hg => rfl); (case hr => first | (go_simp; done) | (go_simp; rfl)); (case hp => exact (Reps.one (show Kd.M (Kd.int .u64) _ _ _ a0 [.int .u64 a0] from rfl) (Reps.one (show Kd.M (Kd.int .u64) _ _ _ a1 [.int .u64 a1] from rfl) (Reps.none _ _)))); intro v605 w11 ho12 hb hg_ hnew_; clear hg_ hnew_; (first | rw [← Ny604.out] at ho12 | (simp only [Int.reduceToNat] at ho12; rw [← Ny604.out] at ho12)); refine ax2 (Kd.R_lower ho12 (below_size bel)) (below_step bel hb) ?_; clear HB; intro HO606 HB; clear hb ho12; obtain ⟨Ao13, co13, eo13⟩ := Kd.R_slice HO606.out; subst eo13) | (go_at_call 40; (with_reducible refine (gimbalref04_Nans.calls k _ _ y604 t607 false _ ?side1 ?side2 A3.out).mono ?_); (case side1 => exact ks HO606); (case side2 => exact (Kd.R_reads' HO606.out).2.1); rintro e w' ⟨rfl, ⟨nd, rfl⟩⟩; (try first | exact dn1 | exact dn2)) | (go_at_call 44; (with_reducible refine (gimbalref04_Neg.calls a0 t609 _ A8.out).mono ?_); rintro e w' ⟨rfl, ⟨nd, rfl⟩⟩; (try first | exact dn1 | exact dn2)) | (go_at_call 44; (with_reducible refine (gimbalref04_Neg.calls a1 t610 _ A9.out).mono ?_); rintro e w' ⟨rfl, ⟨nd, rfl⟩⟩; (try first | exact dn1 | exact dn2))); go_upto_region 5 with (first | ((with_reducible refine gate_dst (N := 19) rfl ?_); refine Kd.R_lit (Kd.int .u64) _ 22 ?hg (N := 19) ?hd (xs := ([a0, a1] : List Int)) (inner := [.int .u64 a0, .int .u64 a1]) (ok := fun _ => True) (okp := fun _ => True) ?hr ?hp (fun _ hk => hk) trivial (Below.refl _ _) (Nat.le_refl _) (by simp) ?_; (case hd => rfl); (case hg => rfl); (case hr => first | (go_simp; done) | (go_simp; rfl)); (case hp => exact (Reps.one (show Kd.M (Kd.int .u64) _ _ _ a0 [.int .u64 a0] from rfl) (Reps.one (show Kd.M (Kd.int .u64) _ _ _ a1 [.int .u64 a1] from rfl) (Reps.none _ _)))); intro v605 w11 ho12 hb hg_ hnew_; clear hg_ hnew_; (first | rw [← Ny604.out] at ho12 | (simp only [Int.reduceToNat] at ho12; rw [← Ny604.out] at ho12)); refine ax2 (Kd.R_lower ho12 (below_size bel)) (below_step bel hb) ?_; clear HB; intro HO606 HB; clear hb ho12; obtain ⟨Ao13, co13, eo13⟩ := Kd.R_slice HO606.out; subst eo13) | (go_at_call 40; (with_reducible refine (gimbalref04_Nans.calls k _ _ y604 t607 false _ ?side1 ?side2 A3.out).mono ?_); (case side1 => exact ks HO606); (case side2 => exact (Kd.R_reads' HO606.out).2.1); rintro e w' ⟨rfl, ⟨nd, rfl⟩⟩; (try first | exact dn1 | exact dn2)) | (go_at_call 44; (with_reducible refine (gimbalref04_Neg.calls a0 t609 _ A8.out).mono ?_); rintro e w' ⟨rfl, ⟨nd, rfl⟩⟩; (try first | exact dn1 | exact dn2)) | (go_at_call 44; (with_reducible refine (gimbalref04_Neg.calls a1 t610 _ A9.out).mono ?_); rintro e w' ⟨rfl, ⟨nd, rfl⟩⟩; (try first | exact dn1 | exact dn2))))
  (try simp only [Act.put, sa0, sa1, sa2])
  go_cut [8, 43] (fun v8 v43 wc => ∃ (kq : Nat) (x8_9 : Bool) (x43_9 : Bool), v8 = .bool x8_9 ∧ v43 = .bool x43_9 ∧ Aside0 (gimbalref04_Mul.j0 kq a0 a1 x8_9 x43_9 = some (r1, r2)) ∧ Aside0 (kq ≤ k) ∧ Aside0 (Below w.heap.size w wc))
  case first =>
   have H := HC10.out
   clear HC10
   obtain ⟨t611, A140, H⟩ := Option.bind_eq_some_iff.mp H
   (try dsimp -simprocs only at H)
   have A14 := Aside0.mk A140
   clear A140
   by_cases c15 : t611 = true
   ·
    subst c15
    rw [if_pos rfl] at H
    obtain ⟨t612, A160, H⟩ := Option.bind_eq_some_iff.mp H
    (try dsimp -simprocs only at H)
    have A16 := Aside0.mk A160
    clear A160
    by_cases c17 : t612 = true
    ·
     subst c17
     rw [if_pos rfl] at H
     have H' := Aside0.mk H
     clear H
     go_wp2_with (first | (go_at_call 41; (with_reducible refine (gimbalref04_IsInf.calls a0 true _ A14.out).mono ?_); rintro e w' ⟨rfl, ⟨nd, rfl⟩⟩; (try first | exact dn1 | exact dn2)) | (go_at_call 42; (with_reducible refine (gimbalref04_IsZero.calls a1 true _ A16.out).mono ?_); rintro e w' ⟨rfl, ⟨nd, rfl⟩⟩; (try first | exact dn1 | exact dn2)))
     repeat (go_quiet (first | (go_at_call 41; (with_reducible refine (gimbalref04_IsInf.calls a0 true _ A14.out).mono ?_); rintro e w' ⟨rfl, ⟨nd, rfl⟩⟩; (try first | exact dn1 | exact dn2)) | (go_at_call 42; (with_reducible refine (gimbalref04_IsZero.calls a1 true _ A16.out).mono ?_); rintro e w' ⟨rfl, ⟨nd, rfl⟩⟩; (try first | exact dn1 | exact dn2))); try go_wp2_with (first | (go_at_call 41; (with_reducible refine (gimbalref04_IsInf.calls a0 true _ A14.out).mono ?_); rintro e w' ⟨rfl, ⟨nd, rfl⟩⟩; (try first | exact dn1 | exact dn2)) | (go_at_call 42; (with_reducible refine (gimbalref04_IsZero.calls a1 true _ A16.out).mono ?_); rintro e w' ⟨rfl, ⟨nd, rfl⟩⟩; (try first | exact dn1 | exact dn2))))
     go_meet
     case rel => exact ⟨_, ((t609 != t610)), (true), (by first | rfl | (simp; done) | (simp [*]; done)), (by first | rfl | (simp; done) | (simp [*]; done)), H', ⟨by first | omega | exact Nat.le_refl _⟩, ⟨bel⟩⟩
    ·
     replace c17 := Bool.eq_false_iff.mpr c17
     subst c17
     rw [if_neg (show ¬ (false = true) by decide)] at H
     obtain ⟨t613, A180, H⟩ := Option.bind_eq_some_iff.mp H
     (try dsimp -simprocs only at H)
     have A18 := Aside0.mk A180
     clear A180
     by_cases c19 : t613 = true
     ·
      subst c19
      rw [if_pos rfl] at H
      obtain ⟨t614, A200, H⟩ := Option.bind_eq_some_iff.mp H
      (try dsimp -simprocs only at H)
      have A20 := Aside0.mk A200
      clear A200
      have H' := Aside0.mk H
      clear H
      go_wp2_with (first | (go_at_call 41; (with_reducible refine (gimbalref04_IsInf.calls a0 true _ A14.out).mono ?_); rintro e w' ⟨rfl, ⟨nd, rfl⟩⟩; (try first | exact dn1 | exact dn2)) | (go_at_call 42; (with_reducible refine (gimbalref04_IsZero.calls a1 false _ A16.out).mono ?_); rintro e w' ⟨rfl, ⟨nd, rfl⟩⟩; (try first | exact dn1 | exact dn2)) | (go_at_call 42; (with_reducible refine (gimbalref04_IsZero.calls a0 true _ A18.out).mono ?_); rintro e w' ⟨rfl, ⟨nd, rfl⟩⟩; (try first | exact dn1 | exact dn2)) | (go_at_call 41; (with_reducible refine (gimbalref04_IsInf.calls a1 t614 _ A20.out).mono ?_); rintro e w' ⟨rfl, ⟨nd, rfl⟩⟩; (try first | exact dn1 | exact dn2)))
      repeat (go_quiet (first | (go_at_call 41; (with_reducible refine (gimbalref04_IsInf.calls a0 true _ A14.out).mono ?_); rintro e w' ⟨rfl, ⟨nd, rfl⟩⟩; (try first | exact dn1 | exact dn2)) | (go_at_call 42; (with_reducible refine (gimbalref04_IsZero.calls a1 false _ A16.out).mono ?_); rintro e w' ⟨rfl, ⟨nd, rfl⟩⟩; (try first | exact dn1 | exact dn2)) | (go_at_call 42; (with_reducible refine (gimbalref04_IsZero.calls a0 true _ A18.out).mono ?_); rintro e w' ⟨rfl, ⟨nd, rfl⟩⟩; (try first | exact dn1 | exact dn2)) | (go_at_call 41; (with_reducible refine (gimbalref04_IsInf.calls a1 t614 _ A20.out).mono ?_); rintro e w' ⟨rfl, ⟨nd, rfl⟩⟩; (try first | exact dn1 | exact dn2))); try go_wp2_with (first | (go_at_call 41; (with_reducible refine (gimbalref04_IsInf.calls a0 true _ A14.out).mono ?_); rintro e w' ⟨rfl, ⟨nd, rfl⟩⟩; (try first | exact dn1 | exact dn2)) | (go_at_call 42; (with_reducible refine (gimbalref04_IsZero.calls a1 false _ A16.out).mono ?_); rintro e w' ⟨rfl, ⟨nd, rfl⟩⟩; (try first | exact dn1 | exact dn2)) | (go_at_call 42; (with_reducible refine (gimbalref04_IsZero.calls a0 true _ A18.out).mono ?_); rintro e w' ⟨rfl, ⟨nd, rfl⟩⟩; (try first | exact dn1 | exact dn2)) | (go_at_call 41; (with_reducible refine (gimbalref04_IsInf.calls a1 t614 _ A20.out).mono ?_); rintro e w' ⟨rfl, ⟨nd, rfl⟩⟩; (try first | exact dn1 | exact dn2))))
      go_meet
      case rel => exact ⟨_, ((t609 != t610)), (t614), (by first | rfl | (simp; done) | (simp [*]; done)), (by first | rfl | (simp; done) | (simp [*]; done)), H', ⟨by first | omega | exact Nat.le_refl _⟩, ⟨bel⟩⟩
     ·
      replace c19 := Bool.eq_false_iff.mpr c19
      subst c19
      rw [if_neg (show ¬ (false = true) by decide)] at H
      have H' := Aside0.mk H
      clear H
      go_wp2_with (first | (go_at_call 41; (with_reducible refine (gimbalref04_IsInf.calls a0 true _ A14.out).mono ?_); rintro e w' ⟨rfl, ⟨nd, rfl⟩⟩; (try first | exact dn1 | exact dn2)) | (go_at_call 42; (with_reducible refine (gimbalref04_IsZero.calls a1 false _ A16.out).mono ?_); rintro e w' ⟨rfl, ⟨nd, rfl⟩⟩; (try first | exact dn1 | exact dn2)) | (go_at_call 42; (with_reducible refine (gimbalref04_IsZero.calls a0 false _ A18.out).mono ?_); rintro e w' ⟨rfl, ⟨nd, rfl⟩⟩; (try first | exact dn1 | exact dn2)))
      repeat (go_quiet (first | (go_at_call 41; (with_reducible refine (gimbalref04_IsInf.calls a0 true _ A14.out).mono ?_); rintro e w' ⟨rfl, ⟨nd, rfl⟩⟩; (try first | exact dn1 | exact dn2)) | (go_at_call 42; (with_reducible refine (gimbalref04_IsZero.calls a1 false _ A16.out).mono ?_); rintro e w' ⟨rfl, ⟨nd, rfl⟩⟩; (try first | exact dn1 | exact dn2)) | (go_at_call 42; (with_reducible refine (gimbalref04_IsZero.calls a0 false _ A18.out).mono ?_); rintro e w' ⟨rfl, ⟨nd, rfl⟩⟩; (try first | exact dn1 | exact dn2))); try go_wp2_with (first | (go_at_call 41; (with_reducible refine (gimbalref04_IsInf.calls a0 true _ A14.out).mono ?_); rintro e w' ⟨rfl, ⟨nd, rfl⟩⟩; (try first | exact dn1 | exact dn2)) | (go_at_call 42; (with_reducible refine (gimbalref04_IsZero.calls a1 false _ A16.out).mono ?_); rintro e w' ⟨rfl, ⟨nd, rfl⟩⟩; (try first | exact dn1 | exact dn2)) | (go_at_call 42; (with_reducible refine (gimbalref04_IsZero.calls a0 false _ A18.out).mono ?_); rintro e w' ⟨rfl, ⟨nd, rfl⟩⟩; (try first | exact dn1 | exact dn2))))
      go_meet
      case rel => exact ⟨_, ((t609 != t610)), (false), (by first | rfl | (simp; done) | (simp [*]; done)), (by first | rfl | (simp; done) | (simp [*]; done)), H', ⟨by first | omega | exact Nat.le_refl _⟩, ⟨bel⟩⟩
   ·
    replace c15 := Bool.eq_false_iff.mpr c15
    subst c15
    rw [if_neg (show ¬ (false = true) by decide)] at H
    obtain ⟨t615, A210, H⟩ := Option.bind_eq_some_iff.mp H
    (try dsimp -simprocs only at H)
    have A21 := Aside0.mk A210
    clear A210
    by_cases c22 : t615 = true
    ·
     subst c22
     rw [if_pos rfl] at H
     obtain ⟨t616, A230, H⟩ := Option.bind_eq_some_iff.mp H
     (try dsimp -simprocs only at H)
     have A23 := Aside0.mk A230
     clear A230
     have H' := Aside0.mk H
     clear H
     go_wp2_with (first | (go_at_call 41; (with_reducible refine (gimbalref04_IsInf.calls a0 false _ A14.out).mono ?_); rintro e w' ⟨rfl, ⟨nd, rfl⟩⟩; (try first | exact dn1 | exact dn2)) | (go_at_call 42; (with_reducible refine (gimbalref04_IsZero.calls a0 true _ A21.out).mono ?_); rintro e w' ⟨rfl, ⟨nd, rfl⟩⟩; (try first | exact dn1 | exact dn2)) | (go_at_call 41; (with_reducible refine (gimbalref04_IsInf.calls a1 t616 _ A23.out).mono ?_); rintro e w' ⟨rfl, ⟨nd, rfl⟩⟩; (try first | exact dn1 | exact dn2)))
     repeat (go_quiet (first | (go_at_call 41; (with_reducible refine (gimbalref04_IsInf.calls a0 false _ A14.out).mono ?_); rintro e w' ⟨rfl, ⟨nd, rfl⟩⟩; (try first | exact dn1 | exact dn2)) | (go_at_call 42; (with_reducible refine (gimbalref04_IsZero.calls a0 true _ A21.out).mono ?_); rintro e w' ⟨rfl, ⟨nd, rfl⟩⟩; (try first | exact dn1 | exact dn2)) | (go_at_call 41; (with_reducible refine (gimbalref04_IsInf.calls a1 t616 _ A23.out).mono ?_); rintro e w' ⟨rfl, ⟨nd, rfl⟩⟩; (try first | exact dn1 | exact dn2))); try go_wp2_with (first | (go_at_call 41; (with_reducible refine (gimbalref04_IsInf.calls a0 false _ A14.out).mono ?_); rintro e w' ⟨rfl, ⟨nd, rfl⟩⟩; (try first | exact dn1 | exact dn2)) | (go_at_call 42; (with_reducible refine (gimbalref04_IsZero.calls a0 true _ A21.out).mono ?_); rintro e w' ⟨rfl, ⟨nd, rfl⟩⟩; (try first | exact dn1 | exact dn2)) | (go_at_call 41; (with_reducible refine (gimbalref04_IsInf.calls a1 t616 _ A23.out).mono ?_); rintro e w' ⟨rfl, ⟨nd, rfl⟩⟩; (try first | exact dn1 | exact dn2))))
     go_meet
     case rel => exact ⟨_, ((t609 != t610)), (t616), (by first | rfl | (simp; done) | (simp [*]; done)), (by first | rfl | (simp; done) | (simp [*]; done)), H', ⟨by first | omega | exact Nat.le_refl _⟩, ⟨bel⟩⟩
    ·
     replace c22 := Bool.eq_false_iff.mpr c22
     subst c22
     rw [if_neg (show ¬ (false = true) by decide)] at H
     have H' := Aside0.mk H
     clear H
     go_wp2_with (first | (go_at_call 41; (with_reducible refine (gimbalref04_IsInf.calls a0 false _ A14.out).mono ?_); rintro e w' ⟨rfl, ⟨nd, rfl⟩⟩; (try first | exact dn1 | exact dn2)) | (go_at_call 42; (with_reducible refine (gimbalref04_IsZero.calls a0 false _ A21.out).mono ?_); rintro e w' ⟨rfl, ⟨nd, rfl⟩⟩; (try first | exact dn1 | exact dn2)))
     repeat (go_quiet (first | (go_at_call 41; (with_reducible refine (gimbalref04_IsInf.calls a0 false _ A14.out).mono ?_); rintro e w' ⟨rfl, ⟨nd, rfl⟩⟩; (try first | exact dn1 | exact dn2)) | (go_at_call 42; (with_reducible refine (gimbalref04_IsZero.calls a0 false _ A21.out).mono ?_); rintro e w' ⟨rfl, ⟨nd, rfl⟩⟩; (try first | exact dn1 | exact dn2))); try go_wp2_with (first | (go_at_call 41; (with_reducible refine (gimbalref04_IsInf.calls a0 false _ A14.out).mono ?_); rintro e w' ⟨rfl, ⟨nd, rfl⟩⟩; (try first | exact dn1 | exact dn2)) | (go_at_call 42; (with_reducible refine (gimbalref04_IsZero.calls a0 false _ A21.out).mono ?_); rintro e w' ⟨rfl, ⟨nd, rfl⟩⟩; (try first | exact dn1 | exact dn2))))
     go_meet
     case rel => exact ⟨_, ((t609 != t610)), (false), (by first | rfl | (simp; done) | (simp [*]; done)), (by first | rfl | (simp; done) | (simp [*]; done)), H', ⟨by first | omega | exact Nat.le_refl _⟩, ⟨bel⟩⟩
  case rest =>
   clear HC10
   try clear c1
   try clear c2
   try clear p2
   try clear c4
   try clear c15
   try clear c17
   try clear c19
   try clear c22
   obtain ⟨kq, x8_9, x43_9, rfl, rfl, HA, HJ9, HB⟩ := hcut
   cases kq with
   | zero => exact absurd HA.out (by simp [gimbalref04_Mul.j0])
   | succ kj9 =>
    have H := HA.out
    clear HA
    simp only [gimbalref04_Mul.j0] at H
    by_cases c24 : x43_9 = true
    ·
     subst c24
     rw [if_pos rfl] at H
     simp only [Option.some.injEq, Prod.mk.injEq] at H
     obtain ⟨rfl, rfl⟩ := H
     go_wp2
     repeat (go_quiet (fail); try go_wp2)
     go_ret2
     exact ⟨er, bel⟩
    ·
     replace c24 := Bool.eq_false_iff.mpr c24
     subst c24
     rw [if_neg (show ¬ (false = true) by decide)] at H
     have HC25 := Aside0.mk H
     clear H
     go_upto_region 7 with (fail)
     repeat (go_quiet (fail); go_upto_region 7 with (fail))
     go_cut [49] (fun v49 wc => ∃ (kq : Nat) (x49_24 : Bool), v49 = .bool x49_24 ∧ Aside0 (gimbalref04_Mul.j1 kq a0 a1 x8_9 x49_24 = some (r1, r2)) ∧ Aside0 (kq ≤ kj9) ∧ Aside0 (Below w.heap.size w wc))
     case first =>
      have H := HC25.out
      clear HC25
      obtain ⟨t617, A260, H⟩ := Option.bind_eq_some_iff.mp H
      (try dsimp -simprocs only at H)
      have A26 := Aside0.mk A260
      clear A260
      by_cases c27 : t617 = true
      ·
       subst c27
       rw [if_pos rfl] at H
       have H' := Aside0.mk H
       clear H
       go_wp2_with (first | (go_at_call 41; (with_reducible refine (gimbalref04_IsInf.calls a0 true _ A26.out).mono ?_); rintro e w' ⟨rfl, ⟨nd, rfl⟩⟩; (try first | exact dn1 | exact dn2)))
       repeat (go_quiet (first | (go_at_call 41; (with_reducible refine (gimbalref04_IsInf.calls a0 true _ A26.out).mono ?_); rintro e w' ⟨rfl, ⟨nd, rfl⟩⟩; (try first | exact dn1 | exact dn2))); try go_wp2_with (first | (go_at_call 41; (with_reducible refine (gimbalref04_IsInf.calls a0 true _ A26.out).mono ?_); rintro e w' ⟨rfl, ⟨nd, rfl⟩⟩; (try first | exact dn1 | exact dn2))))
       go_meet
       case rel => exact ⟨_, (true), (by first | rfl | (simp; done) | (simp [*]; done)), H', ⟨by have := HJ9.out; first | omega | exact Nat.le_refl _⟩, ⟨bel⟩⟩
      ·
       replace c27 := Bool.eq_false_iff.mpr c27
       subst c27
       rw [if_neg (show ¬ (false = true) by decide)] at H
       obtain ⟨t618, A280, H⟩ := Option.bind_eq_some_iff.mp H
       (try dsimp -simprocs only at H)
       have A28 := Aside0.mk A280
       clear A280
       have H' := Aside0.mk H
       clear H
       go_wp2_with (first | (go_at_call 41; (with_reducible refine (gimbalref04_IsInf.calls a0 false _ A26.out).mono ?_); rintro e w' ⟨rfl, ⟨nd, rfl⟩⟩; (try first | exact dn1 | exact dn2)) | (go_at_call 41; (with_reducible refine (gimbalref04_IsInf.calls a1 t618 _ A28.out).mono ?_); rintro e w' ⟨rfl, ⟨nd, rfl⟩⟩; (try first | exact dn1 | exact dn2)))
       repeat (go_quiet (first | (go_at_call 41; (with_reducible refine (gimbalref04_IsInf.calls a0 false _ A26.out).mono ?_); rintro e w' ⟨rfl, ⟨nd, rfl⟩⟩; (try first | exact dn1 | exact dn2)) | (go_at_call 41; (with_reducible refine (gimbalref04_IsInf.calls a1 t618 _ A28.out).mono ?_); rintro e w' ⟨rfl, ⟨nd, rfl⟩⟩; (try first | exact dn1 | exact dn2))); try go_wp2_with (first | (go_at_call 41; (with_reducible refine (gimbalref04_IsInf.calls a0 false _ A26.out).mono ?_); rintro e w' ⟨rfl, ⟨nd, rfl⟩⟩; (try first | exact dn1 | exact dn2)) | (go_at_call 41; (with_reducible refine (gimbalref04_IsInf.calls a1 t618 _ A28.out).mono ?_); rintro e w' ⟨rfl, ⟨nd, rfl⟩⟩; (try first | exact dn1 | exact dn2))))
       go_meet
       case rel => exact ⟨_, (t618), (by first | rfl | (simp; done) | (simp [*]; done)), H', ⟨by have := HJ9.out; first | omega | exact Nat.le_refl _⟩, ⟨bel⟩⟩
     case rest =>
      clear HC25
      try clear c1
      try clear c2
      try clear p2
      try clear c4
      try clear c15
      try clear c17
      try clear c19
      try clear c22
      try clear c24
      try clear c27
      try clear p2
      obtain ⟨kq, x49_24, rfl, HA, HJ24, HB⟩ := hcut
      cases kq with
      | zero => exact absurd HA.out (by simp [gimbalref04_Mul.j1])
      | succ kj24 =>
       have H := HA.out
       clear HA
       simp only [gimbalref04_Mul.j1] at H
       by_cases c29 : x49_24 = true
       ·
        subst c29
        rw [if_pos rfl] at H
        obtain ⟨t619, A300, H⟩ := Option.bind_eq_some_iff.mp H
        (try dsimp -simprocs only at H)
        have A30 := Aside0.mk A300
        clear A300
        simp only [Option.some.injEq, Prod.mk.injEq] at H
        obtain ⟨rfl, rfl⟩ := H
        go_wp2_with (first | (go_at_call 43; (with_reducible refine (gimbalref04_Signed.calls x8_9 9218868437227405312 t619 _ A30.out).mono ?_); rintro e w' ⟨rfl, ⟨nd, rfl⟩⟩; (try first | exact dn1 | exact dn2)))
        repeat (go_quiet (first | (go_at_call 43; (with_reducible refine (gimbalref04_Signed.calls x8_9 9218868437227405312 t619 _ A30.out).mono ?_); rintro e w' ⟨rfl, ⟨nd, rfl⟩⟩; (try first | exact dn1 | exact dn2))); try go_wp2_with (first | (go_at_call 43; (with_reducible refine (gimbalref04_Signed.calls x8_9 9218868437227405312 t619 _ A30.out).mono ?_); rintro e w' ⟨rfl, ⟨nd, rfl⟩⟩; (try first | exact dn1 | exact dn2))))
        go_ret2
        exact ⟨er, bel⟩
       ·
        replace c29 := Bool.eq_false_iff.mpr c29
        subst c29
        rw [if_neg (show ¬ (false = true) by decide)] at H
        obtain ⟨⟨t620, t621, t622⟩, A310, H⟩ := Option.bind_eq_some_iff.mp H
        (try dsimp -simprocs only at H)
        have A31 := Aside0.mk A310
        clear A310
        obtain ⟨⟨t623, t624, t625⟩, A320, H⟩ := Option.bind_eq_some_iff.mp H
        (try dsimp -simprocs only at H)
        have A32 := Aside0.mk A320
        clear A320
        have HC33 := Aside0.mk H
        clear H
        go_upto_if 65 with (first | (go_at_call 50; (with_reducible refine (gimbalref04_Parts.calls a0 t620 t621 t622 _ A31.out).mono ?_); rintro e w' ⟨rfl, ⟨nd, rfl⟩⟩; (try first | exact dn1 | exact dn2)) | (go_at_call 50; (with_reducible refine (gimbalref04_Parts.calls a1 t623 t624 t625 _ A32.out).mono ?_); rintro e w' ⟨rfl, ⟨nd, rfl⟩⟩; (try first | exact dn1 | exact dn2)))
        repeat (go_quiet (first | (go_at_call 50; (with_reducible refine (gimbalref04_Parts.calls a0 t620 t621 t622 _ A31.out).mono ?_); rintro e w' ⟨rfl, ⟨nd, rfl⟩⟩; (try first | exact dn1 | exact dn2)) | (go_at_call 50; (with_reducible refine (gimbalref04_Parts.calls a1 t623 t624 t625 _ A32.out).mono ?_); rintro e w' ⟨rfl, ⟨nd, rfl⟩⟩; (try first | exact dn1 | exact dn2))); go_upto_if 65 with (first | (go_at_call 50; (with_reducible refine (gimbalref04_Parts.calls a0 t620 t621 t622 _ A31.out).mono ?_); rintro e w' ⟨rfl, ⟨nd, rfl⟩⟩; (try first | exact dn1 | exact dn2)) | (go_at_call 50; (with_reducible refine (gimbalref04_Parts.calls a1 t623 t624 t625 _ A32.out).mono ?_); rintro e w' ⟨rfl, ⟨nd, rfl⟩⟩; (try first | exact dn1 | exact dn2))))
        (try simp only [Act.put, sa0, sa1, sa2])
        go_cut [10, 11] (fun v10 v11 wc => ∃ (kq : Nat) (x10_32 : Int) (x11_32 : Int), v10 = .int .i64 x10_32 ∧ v11 = .int .u64 x11_32 ∧ Aside0 (gimbalref04_Mul.j2 kq x8_9 x10_32 x11_32 t624 t625 = some (r1, r2)) ∧ Aside0 (kq ≤ kj24) ∧ Aside0 (Below w.heap.size w wc))
        case first =>
         have H := HC33.out
         clear HC33
         by_cases c34 : t621 > 0
         ·
          rw [if_pos c34] at H
          have c34b0 : decide (0 < t621) = true := decide_eq_true c34
          clear c34
          (first | rw [c34b0] | (simp only [i64_w, i32_w]; rw [c34b0]) | skip)
          have H' := Aside0.mk H
          clear H
          go_wp2
          repeat (go_quiet (fail); try go_wp2)
          go_meet
          case rel => exact ⟨_, (wrap64 (t621 - 1)), (IntKind.u64.wrap (t622 + 4503599627370496)), (by first | rfl | (simp; done) | (simp [*]; done)), (by first | rfl | (simp; done) | (simp [*]; done)), H', ⟨by have := HJ9.out; have := HJ24.out; first | omega | exact Nat.le_refl _⟩, ⟨bel⟩⟩
         ·
          rw [if_neg c34] at H
          have c34b0 : decide (0 < t621) = false := decide_eq_false c34
          clear c34
          (first | rw [c34b0] | (simp only [i64_w, i32_w]; rw [c34b0]) | skip)
          have H' := Aside0.mk H
          clear H
          go_wp2
          repeat (go_quiet (fail); try go_wp2)
          go_meet
          case rel => exact ⟨_, (t621), (t622), (by first | rfl | (simp; done) | (simp [*]; done)), (by first | rfl | (simp; done) | (simp [*]; done)), H', ⟨by have := HJ9.out; have := HJ24.out; first | omega | exact Nat.le_refl _⟩, ⟨bel⟩⟩
        case rest =>
         clear HC33
         try clear c1
         try clear c2
         try clear p2
         try clear c3
         try clear c4
         try clear p6
         try clear c15
         try clear c17
         try clear c19
         try clear c22
         try clear c24
         try clear c27
         try clear c29
         try clear c34
         try clear c34b0
         try clear p2
         obtain ⟨kq, x10_32, x11_32, rfl, rfl, HA, HJ32, HB⟩ := hcut
         cases kq with
         | zero => exact absurd HA.out (by simp [gimbalref04_Mul.j2])
         | succ kj32 =>
          have H := HA.out
          clear HA
          simp only [gimbalref04_Mul.j2] at H
          have HC35 := Aside0.mk H
          clear H
          go_upto_if 71 with (fail)
          repeat (go_quiet (fail); go_upto_if 71 with (fail))
          go_cut [13, 14] (fun v13 v14 wc => ∃ (kq : Nat) (x13_34 : Int) (x14_34 : Int), v13 = .int .i64 x13_34 ∧ v14 = .int .u64 x14_34 ∧ Aside0 (gimbalref04_Mul.j3 kq x8_9 x10_32 x11_32 x13_34 x14_34 = some (r1, r2)) ∧ Aside0 (kq ≤ kj32) ∧ Aside0 (Below w.heap.size w wc))
          case first =>
           have H := HC35.out
           clear HC35
           by_cases c36 : t624 > 0
           ·
            rw [if_pos c36] at H
            have c36b0 : decide (0 < t624) = true := decide_eq_true c36
            clear c36
            (first | rw [c36b0] | (simp only [i64_w, i32_w]; rw [c36b0]) | skip)
            have H' := Aside0.mk H
            clear H
            go_wp2
            repeat (go_quiet (fail); try go_wp2)
            go_meet
            case rel => exact ⟨_, (wrap64 (t624 - 1)), (IntKind.u64.wrap (t625 + 4503599627370496)), (by first | rfl | (simp; done) | (simp [*]; done)), (by first | rfl | (simp; done) | (simp [*]; done)), H', ⟨by have := HJ9.out; have := HJ24.out; have := HJ32.out; first | omega | exact Nat.le_refl _⟩, ⟨bel⟩⟩
           ·
            rw [if_neg c36] at H
            have c36b0 : decide (0 < t624) = false := decide_eq_false c36
            clear c36
            (first | rw [c36b0] | (simp only [i64_w, i32_w]; rw [c36b0]) | skip)
            have H' := Aside0.mk H
            clear H
            go_wp2
            repeat (go_quiet (fail); try go_wp2)
            go_meet
            case rel => exact ⟨_, (t624), (t625), (by first | rfl | (simp; done) | (simp [*]; done)), (by first | rfl | (simp; done) | (simp [*]; done)), H', ⟨by have := HJ9.out; have := HJ24.out; have := HJ32.out; first | omega | exact Nat.le_refl _⟩, ⟨bel⟩⟩
          case rest =>
           clear HC35
           try clear c1
           try clear c2
           try clear p2
           try clear c3
           try clear c4
           try clear p6
           try clear c15
           try clear c17
           try clear c19
           try clear c22
           try clear c24
           try clear c27
           try clear c29
           try clear c34
           try clear c34b0
           try clear c36
           try clear c36b0
           try clear p2
           try clear p6
           obtain ⟨kq, x13_34, x14_34, rfl, rfl, HA, HJ34, HB⟩ := hcut
           cases kq with
           | zero => exact absurd HA.out (by simp [gimbalref04_Mul.j3])
           | succ kj34 =>
            have H := HA.out
            clear HA
            simp only [gimbalref04_Mul.j3] at H
            obtain ⟨t626, A370, H⟩ := Option.bind_eq_some_iff.mp H
            (try dsimp -simprocs only at H)
            have A37 := Aside0.mk A370
            clear A370
            obtain ⟨t629, A380, H⟩ := Option.bind_eq_some_iff.mp H
            (try dsimp -simprocs only at H)
            have A38 := Aside0.mk A380
            clear A380
            obtain ⟨t632, A390, H⟩ := Option.bind_eq_some_iff.mp H
            (try dsimp -simprocs only at H)
            have A39 := Aside0.mk A390
            clear A390
            obtain ⟨⟨t635, t636⟩, A400, H⟩ := Option.bind_eq_some_iff.mp H
            (try dsimp -simprocs only at H)
            have A40 := Aside0.mk A400
            clear A400
            simp only [Option.some.injEq, Prod.mk.injEq] at H
            obtain ⟨rfl, rfl⟩ := H
            go_wp2_with (first | (go_at_call 19; (with_reducible refine (gimbalref02_Of.calls kj34 x11_32 t626 _ A37.out).mono ?_); rintro e w41 ⟨v627, rfl, ho0, hb⟩; refine ax2 (Kd.R_lower ho0 (below_size bel)) (below_step bel hb) ?_; clear HB; intro HO628 HB; (try clear hb); (try clear ho0)) | (go_at_call 19; (with_reducible refine (gimbalref02_Of.calls kj34 x14_34 t629 _ A38.out).mono ?_); rintro e w42 ⟨v630, rfl, ho0, hb⟩; refine ax3 (Kd.R_elder' (kr HO628) (Kd.R_base ho0) hb) (Kd.R_lower (Kd.R_new' ho0 (Kd.R_lt (kr HO628))) (below_size bel)) (below_step bel hb) ?_; clear HO628; clear HB; intro HO628 HO631 HB; (try clear hb); (try clear ho0); obtain ⟨Ao43, co43, eo43⟩ := Kd.R_slice HO628.out; subst eo43; obtain ⟨Ao44, co44, eo44⟩ := Kd.R_slice HO631.out; subst eo44) | (go_at_call 51; (with_reducible refine (gimbalref02_Mul.calls kj34 _ _ t626 _ _ t629 t632 _ ?side1 ?side2 ?side3 ?side4 A39.out).mono ?_); (case side1 => exact ks HO628); (case side2 => exact (Kd.R_reads' HO628.out).2.1); (case side3 => exact ks HO631); (case side4 => exact (Kd.R_reads' HO631.out).2.1); rintro e w45 ⟨v633, rfl, ho0, hb⟩; refine ax4 (Kd.R_elder' (kr HO628) (Kd.R_base ho0) hb) (Kd.R_elder' (kr HO631) (Kd.R_base ho0) hb) (Kd.R_lower (Kd.R_new' (Kd.R_new' ho0 (Kd.R_lt (kr HO628))) (Kd.R_lt (kr HO631))) (below_size bel)) (below_step bel hb) ?_; clear HO628; clear HO631; clear HB; intro HO628 HO631 HO634 HB; (try clear hb); (try clear ho0); obtain ⟨Ao46, co46, eo46⟩ := Kd.R_slice HO634.out; subst eo46) | (go_at_call 49; (with_reducible refine (gimbalref03_Round.calls kj34 x8_9 _ _ t632 (wrap64 ((wrap64 (x10_32 + x13_34)) - 2148)) false t635 t636 _ ?side1 ?side2 A40.out).mono ?_); (case side1 => exact ks HO634); (case side2 => exact (Kd.R_reads' HO634.out).2.1); rintro e w47 ⟨rfl, hb⟩; refine ax4 (Kd.R_below (kr HO628) hb) (Kd.R_below (kr HO631) hb) (Kd.R_below (kr HO634) hb) (below_step bel hb) ?_; clear HO628; clear HO631; clear HO634; clear HB; intro HO628 HO631 HO634 HB; (try clear hb)) | ((with_reducible refine gate_dst (N := 15) rfl ?_); refine gbox (N := 15) (cs := #[.int .u64 0, .int .i64 0]) (t := 74) ?_; intro gb637 hg w48 hbox hb; refine ax7 (Kd.R_below (kr HO628) hb) (Kd.R_below (kr HO631) hb) (Kd.R_below (kr HO634) hb) (below_step bel hb) hbox ((ge hg : w.heap.size ≤ gb637)) ((ge hg : w.heap.size ≤ gb637)) ?_; clear HO628; clear HO631; clear HO634; clear HB; intro HO628 HO631 HO634 HB BK637 GW637 GE637; clear hb hbox hg; have hcz49_0 := bc BK637 0 rfl; have hcz49_1 := bc BK637 1 rfl; have hfz49_0 := blk_frozen BK637.out 0; have hfz49_1 := blk_frozen BK637.out 1))
            repeat (go_quiet (first | (go_at_call 19; (with_reducible refine (gimbalref02_Of.calls kj34 x11_32 t626 _ A37.out).mono ?_); rintro e w41 ⟨v627, rfl, ho0, hb⟩; refine ax2 (Kd.R_lower ho0 (below_size bel)) (below_step bel hb) ?_; clear HB; intro HO628 HB; (try clear hb); (try clear ho0)) | (go_at_call 19; (with_reducible refine (gimbalref02_Of.calls kj34 x14_34 t629 _ A38.out).mono ?_); rintro e w42 ⟨v630, rfl, ho0, hb⟩; refine ax3 (Kd.R_elder' (kr HO628) (Kd.R_base ho0) hb) (Kd.R_lower (Kd.R_new' ho0 (Kd.R_lt (kr HO628))) (below_size bel)) (below_step bel hb) ?_; clear HO628; clear HB; intro HO628 HO631 HB; (try clear hb); (try clear ho0); obtain ⟨Ao43, co43, eo43⟩ := Kd.R_slice HO628.out; subst eo43; obtain ⟨Ao44, co44, eo44⟩ := Kd.R_slice HO631.out; subst eo44) | (go_at_call 51; (with_reducible refine (gimbalref02_Mul.calls kj34 _ _ t626 _ _ t629 t632 _ ?side1 ?side2 ?side3 ?side4 A39.out).mono ?_); (case side1 => exact ks HO628); (case side2 => exact (Kd.R_reads' HO628.out).2.1); (case side3 => exact ks HO631); (case side4 => exact (Kd.R_reads' HO631.out).2.1); rintro e w45 ⟨v633, rfl, ho0, hb⟩; refine ax4 (Kd.R_elder' (kr HO628) (Kd.R_base ho0) hb) (Kd.R_elder' (kr HO631) (Kd.R_base ho0) hb) (Kd.R_lower (Kd.R_new' (Kd.R_new' ho0 (Kd.R_lt (kr HO628))) (Kd.R_lt (kr HO631))) (below_size bel)) (below_step bel hb) ?_; clear HO628; clear HO631; clear HB; intro HO628 HO631 HO634 HB; (try clear hb); (try clear ho0); obtain ⟨Ao46, co46, eo46⟩ := Kd.R_slice HO634.out; subst eo46) | (go_at_call 49; (with_reducible refine (gimbalref03_Round.calls kj34 x8_9 _ _ t632 (wrap64 ((wrap64 (x10_32 + x13_34)) - 2148)) false t635 t636 _ ?side1 ?side2 A40.out).mono ?_); (case side1 => exact ks HO634); (case side2 => exact (Kd.R_reads' HO634.out).2.1); rintro e w47 ⟨rfl, hb⟩; refine ax4 (Kd.R_below (kr HO628) hb) (Kd.R_below (kr HO631) hb) (Kd.R_below (kr HO634) hb) (below_step bel hb) ?_; clear HO628; clear HO631; clear HO634; clear HB; intro HO628 HO631 HO634 HB; (try clear hb)) | ((with_reducible refine gate_dst (N := 15) rfl ?_); refine gbox (N := 15) (cs := #[.int .u64 0, .int .i64 0]) (t := 74) ?_; intro gb637 hg w48 hbox hb; refine ax7 (Kd.R_below (kr HO628) hb) (Kd.R_below (kr HO631) hb) (Kd.R_below (kr HO634) hb) (below_step bel hb) hbox ((ge hg : w.heap.size ≤ gb637)) ((ge hg : w.heap.size ≤ gb637)) ?_; clear HO628; clear HO631; clear HO634; clear HB; intro HO628 HO631 HO634 HB BK637 GW637 GE637; clear hb hbox hg; have hcz49_0 := bc BK637 0 rfl; have hcz49_1 := bc BK637 1 rfl; have hfz49_0 := blk_frozen BK637.out 0; have hfz49_1 := blk_frozen BK637.out 1)); try go_wp2_with (first | (go_at_call 19; (with_reducible refine (gimbalref02_Of.calls kj34 x11_32 t626 _ A37.out).mono ?_); rintro e w41 ⟨v627, rfl, ho0, hb⟩; refine ax2 (Kd.R_lower ho0 (below_size bel)) (below_step bel hb) ?_; clear HB; intro HO628 HB; (try clear hb); (try clear ho0)) | (go_at_call 19; (with_reducible refine (gimbalref02_Of.calls kj34 x14_34 t629 _ A38.out).mono ?_); rintro e w42 ⟨v630, rfl, ho0, hb⟩; refine ax3 (Kd.R_elder' (kr HO628) (Kd.R_base ho0) hb) (Kd.R_lower (Kd.R_new' ho0 (Kd.R_lt (kr HO628))) (below_size bel)) (below_step bel hb) ?_; clear HO628; clear HB; intro HO628 HO631 HB; (try clear hb); (try clear ho0); obtain ⟨Ao43, co43, eo43⟩ := Kd.R_slice HO628.out; subst eo43; obtain ⟨Ao44, co44, eo44⟩ := Kd.R_slice HO631.out; subst eo44) | (go_at_call 51; (with_reducible refine (gimbalref02_Mul.calls kj34 _ _ t626 _ _ t629 t632 _ ?side1 ?side2 ?side3 ?side4 A39.out).mono ?_); (case side1 => exact ks HO628); (case side2 => exact (Kd.R_reads' HO628.out).2.1); (case side3 => exact ks HO631); (case side4 => exact (Kd.R_reads' HO631.out).2.1); rintro e w45 ⟨v633, rfl, ho0, hb⟩; refine ax4 (Kd.R_elder' (kr HO628) (Kd.R_base ho0) hb) (Kd.R_elder' (kr HO631) (Kd.R_base ho0) hb) (Kd.R_lower (Kd.R_new' (Kd.R_new' ho0 (Kd.R_lt (kr HO628))) (Kd.R_lt (kr HO631))) (below_size bel)) (below_step bel hb) ?_; clear HO628; clear HO631; clear HB; intro HO628 HO631 HO634 HB; (try clear hb); (try clear ho0); obtain ⟨Ao46, co46, eo46⟩ := Kd.R_slice HO634.out; subst eo46) | (go_at_call 49; (with_reducible refine (gimbalref03_Round.calls kj34 x8_9 _ _ t632 (wrap64 ((wrap64 (x10_32 + x13_34)) - 2148)) false t635 t636 _ ?side1 ?side2 A40.out).mono ?_); (case side1 => exact ks HO634); (case side2 => exact (Kd.R_reads' HO634.out).2.1); rintro e w47 ⟨rfl, hb⟩; refine ax4 (Kd.R_below (kr HO628) hb) (Kd.R_below (kr HO631) hb) (Kd.R_below (kr HO634) hb) (below_step bel hb) ?_; clear HO628; clear HO631; clear HO634; clear HB; intro HO628 HO631 HO634 HB; (try clear hb)) | ((with_reducible refine gate_dst (N := 15) rfl ?_); refine gbox (N := 15) (cs := #[.int .u64 0, .int .i64 0]) (t := 74) ?_; intro gb637 hg w48 hbox hb; refine ax7 (Kd.R_below (kr HO628) hb) (Kd.R_below (kr HO631) hb) (Kd.R_below (kr HO634) hb) (below_step bel hb) hbox ((ge hg : w.heap.size ≤ gb637)) ((ge hg : w.heap.size ≤ gb637)) ?_; clear HO628; clear HO631; clear HO634; clear HB; intro HO628 HO631 HO634 HB BK637 GW637 GE637; clear hb hbox hg; have hcz49_0 := bc BK637 0 rfl; have hcz49_1 := bc BK637 1 rfl; have hfz49_0 := blk_frozen BK637.out 0; have hfz49_1 := blk_frozen BK637.out 1)))
            go_ret2
            exact ⟨er, bes⟩

end Go.Proofs.YtakegikedpcilaaDoor.F
