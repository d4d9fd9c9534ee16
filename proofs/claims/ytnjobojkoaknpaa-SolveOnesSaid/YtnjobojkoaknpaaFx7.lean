-- Written by a program of this seat's session (mkprint), out of the translation.
import Derived.Test.YtnjobojkoaknpaaShort
import Derived.Test.YtnjobojkoaknpaaFx0
import Derived.Test.YtnjobojkoaknpaaFx2
import Derived.Test.YtnjobojkoaknpaaFx4
import Derived.Test.YtnjobojkoaknpaaFx5
import Derived.Test.YtnjobojkoaknpaaFx6
namespace Go.Proofs.Ytnjobojkoaknpaa.F
open Go.RowKit Go.Proofs.YtnjobojkoaknpaaW.PrintWords Go.Proofs.YtnjobojkoaknpaaW.PrintLast Go.Proofs.YtnjobojkoaknpaaW.PrintMore
attribute [local go_sem] max2_int min2_int max_two min_two max_three min_three max_four min_four   -- for this text's walks alone
set_option linter.unusedVariables false
set_option linter.unusedSimpArgs false

/-! ### soft_Mul: function 32 -/
def soft_Mul.j0 : Nat → Int → Int → Bool → Int → Int → Bool → Option (Int × Int)
 | 0, _, _, _, _, _, _ => none
 | k + 1, x0, x1, x9, x10, x11, x36 => if x36 = true then (some (9221120237041090560, 16)) else (if x10 = 4 then ((word_Make.f x9 2047 0).bind fun t234 => (some (t234, 0))) else (if x11 = 4 then ((word_Make.f x9 2047 0).bind fun t235 => (some (t235, 0))) else ((word_Parts.f k x0).bind fun bt236 => ((word_Parts.f k x1).bind fun bt238 => ((wide_Mul.f bt236.1 bt238.1).bind fun bt240 => ((round_Round.f k x9 bt240.1 bt240.2 (wrap64 (bt236.2 + bt238.2)) false).bind fun bt242 => (some (bt242.1, bt242.2))))))))
def soft_Mul.f (k : Nat) (a0 : Int) (a1 : Int) : Option (Int × Int) := (soft_nan.f k (([a0, a1] : List Int))).bind fun bt227 => (if bt227.2.2 = true then (some (bt227.1, bt227.2.1)) else ((word_Neg.f a0).bind fun t230 => ((word_Neg.f a1).bind fun t231 => ((word_Kind.f k a0).bind fun t232 => ((word_Kind.f k a1).bind fun t233 => (if t232 = 4 then (if t233 = 1 then (soft_Mul.j0 k a0 a1 (t230 != t231) t232 t233 true) else (if t232 = 1 then (soft_Mul.j0 k a0 a1 (t230 != t231) t232 t233 (t233 == 4)) else (soft_Mul.j0 k a0 a1 (t230 != t231) t232 t233 false))) else (if t232 = 1 then (soft_Mul.j0 k a0 a1 (t230 != t231) t232 t233 (t233 == 4)) else (soft_Mul.j0 k a0 a1 (t230 != t231) t232 t233 false))))))))
theorem soft_Mul.mono_l : ∀ k, (∀ y0 y1 y2 y3 y4 y5, LeO (soft_Mul.j0 k y0 y1 y2 y3 y4 y5) (soft_Mul.j0 (k + 1) y0 y1 y2 y3 y4 y5))
 | 0 => fun _ _ _ _ _ _ r h => by simp [soft_Mul.j0] at h
 | k + 1 => by
  have ih0 := soft_Mul.mono_l k
  ·
   intro y0 y1 y2 y3 y4 y5
   unfold soft_Mul.j0
   repeat' with_reducible first | apply ih0 | apply round_Round.mono | apply soft_nan.mono | apply word_Kind.mono | apply word_Parts.mono | exact LeO.refl _ | exact LeO.none _ | refine LeO.ite ?_ ?_ | refine LeO.bind ?_ (fun _ => ?_)
theorem soft_Mul.mono : ∀ a0 a1 k, LeO (soft_Mul.f k a0 a1) (soft_Mul.f (k + 1) a0 a1) := by
 intro a0 a1 k
 have ih0 := soft_Mul.mono_l k
 unfold soft_Mul.f
 repeat' with_reducible first | apply ih0 | apply round_Round.mono | apply soft_nan.mono | apply word_Kind.mono | apply word_Parts.mono | exact LeO.refl _ | exact LeO.none _ | refine LeO.ite ?_ ?_ | refine LeO.bind ?_ (fun _ => ?_)
set_option maxHeartbeats 8000000 in
set_option maxRecDepth 100000 in
theorem soft_Mul.calls (k : Nat) (a0 : Int) (a1 : Int) (r1 : Int) (r2 : Int) (w : World) (h : soft_Mul.f k a0 a1 = some (r1, r2)) :
  Calls Try.prog 32 #[.int .u64 a0, .int .u64 a1] w fun e w' => e = .returned (.tuple #[.int .u64 r1, .int .u8 r2]) ∧ Below w.heap.size w w' := by
 have HB := Aside0.mk (Below.refl w.heap.size w)
 have H : ((soft_nan.f k (([a0, a1] : List Int))).bind fun bt227 => (if bt227.2.2 = true then (some (bt227.1, bt227.2.1)) else ((word_Neg.f a0).bind fun t230 => ((word_Neg.f a1).bind fun t231 => ((word_Kind.f k a0).bind fun t232 => ((word_Kind.f k a1).bind fun t233 => (if t232 = 4 then (if t233 = 1 then (soft_Mul.j0 k a0 a1 (t230 != t231) t232 t233 true) else (if t232 = 1 then (soft_Mul.j0 k a0 a1 (t230 != t231) t232 t233 (t233 == 4)) else (soft_Mul.j0 k a0 a1 (t230 != t231) t232 t233 false))) else (if t232 = 1 then (soft_Mul.j0 k a0 a1 (t230 != t231) t232 t233 (t233 == 4)) else (soft_Mul.j0 k a0 a1 (t230 != t231) t232 t233 false))))))))) = some (r1, r2) := h
 clear h
 obtain ⟨y224, hy224⟩ : ∃ y_ : List Int, y_ = (([a0, a1] : List Int)) := ⟨_, rfl⟩
 replace H : ((soft_nan.f k y224).bind fun bt227 => (if bt227.2.2 = true then (some (bt227.1, bt227.2.1)) else ((word_Neg.f a0).bind fun t230 => ((word_Neg.f a1).bind fun t231 => ((word_Kind.f k a0).bind fun t232 => ((word_Kind.f k a1).bind fun t233 => (if t232 = 4 then (if t233 = 1 then (soft_Mul.j0 k a0 a1 (t230 != t231) t232 t233 true) else (if t232 = 1 then (soft_Mul.j0 k a0 a1 (t230 != t231) t232 t233 (t233 == 4)) else (soft_Mul.j0 k a0 a1 (t230 != t231) t232 t233 false))) else (if t232 = 1 then (soft_Mul.j0 k a0 a1 (t230 != t231) t232 t233 (t233 == 4)) else (soft_Mul.j0 k a0 a1 (t230 != t231) t232 t233 false))))))))) = some (r1, r2) := by first | (rw [hy224]; with_reducible exact H) | (have H2_ := (Option.bind_some _ _).symm.trans H; rw [hy224]; with_reducible exact H2_) | (have H2_ := (Option.bind_some _ _).symm.trans H; with_reducible exact H2_) | with_reducible exact H | (rw [hy224]; exact H) | exact H
 have Ny224 := Aside0.mk hy224
 clear hy224
 obtain ⟨⟨t227, t228, t229⟩, A30, H⟩ := Option.bind_eq_some_iff.mp H
 (try dsimp -simprocs only at H)
 have A3 := Aside0.mk A30
 clear A30
 by_cases c4 : t229 = true
 ·
  subst c4
  rw [if_pos rfl] at H
  simp only [Option.some.injEq, Prod.mk.injEq] at H
  obtain ⟨rfl, rfl⟩ := H
  go_enter Try.func32, Try.ntmps32
  go_wp2_with (first | ((with_reducible refine gate_dst (N := 19) rfl ?_); refine Kd.R_lit (Kd.int .u64) _ 35 ?hg (N := 19) ?hd (xs := ([a0, a1] : List Int)) (inner := [.int .u64 a0, .int .u64 a1]) (ok := fun _ => True) (okp := fun _ => True) ?hr ?hp (fun _ hk => hk) trivial (Below.refl _ _) (Nat.le_refl _) (by simp) ?_; (case hd => rfl); (case hg => rfl); (case hr => first | (go_simp; done) | (go_simp; rfl)); (case hp => exact (Reps.one (show Kd.M (Kd.int .u64) _ _ _ a0 [.int .u64 a0] from rfl) (Reps.one (show Kd.M (Kd.int .u64) _ _ _ a1 [.int .u64 a1] from rfl) (Reps.none _ _)))); intro v225 w5 ho6 hb hg_ hnew_; clear hg_ hnew_; (first | rw [← Ny224.out] at ho6 | (simp only [Int.reduceToNat] at ho6; rw [← Ny224.out] at ho6)); refine ax2 (Kd.R_lower ho6 (below_size bel)) (below_step bel hb) ?_; clear HB; intro HO226 HB; clear hb ho6; obtain ⟨Ao7, co7, eo7⟩ := Kd.R_slice HO226.out; subst eo7) | ((with_reducible refine gate_callee (f := 45) rfl ?_); refine goesL_ (some 20) rfl rfl Try.func45 (by kernel_rfl) rfl #[.slice Ao7 y224.length co7] rfl ga ?_; (with_reducible refine (soft_nan.calls k _ _ y224 t227 t228 true _ ?side1 ?side2 A3.out).mono ?_); (case side1 => exact ks HO226); (case side2 => exact (Kd.R_reads' HO226.out).2.1); rintro e w' ⟨rfl, ⟨nd, rfl⟩⟩; refine ⟨_, rfl, ?_⟩))
  go_ret2
  exact ⟨er, bel⟩
 ·
  replace c4 := Bool.eq_false_iff.mpr c4
  subst c4
  rw [if_neg (show ¬ (false = true) by decide)] at H
  obtain ⟨t230, A80, H⟩ := Option.bind_eq_some_iff.mp H
  (try dsimp -simprocs only at H)
  have A8 := Aside0.mk A80
  clear A80
  obtain ⟨t231, A90, H⟩ := Option.bind_eq_some_iff.mp H
  (try dsimp -simprocs only at H)
  have A9 := Aside0.mk A90
  clear A90
  obtain ⟨t232, A100, H⟩ := Option.bind_eq_some_iff.mp H
  (try dsimp -simprocs only at H)
  have A10 := Aside0.mk A100
  clear A100
  obtain ⟨t233, A110, H⟩ := Option.bind_eq_some_iff.mp H
  (try dsimp -simprocs only at H)
  have A11 := Aside0.mk A110
  clear A110
  have HC12 := Aside0.mk H
  clear H
  go_enter Try.func32, Try.ntmps32
  go_upto_region 6 with (first | ((with_reducible refine gate_dst (N := 19) rfl ?_); refine Kd.R_lit (Kd.int .u64) _ 35 ?hg (N := 19) ?hd (xs := ([a0, a1] : List Int)) (inner := [.int .u64 a0, .int .u64 a1]) (ok := fun _ => True) (okp := fun _ => True) ?hr ?hp (fun _ hk => hk) trivial (Below.refl _ _) (Nat.le_refl _) (by simp) ?_; (case hd => rfl); (case hg => rfl); (case hr => first | (go_simp; done) | (go_simp; rfl)); (case hp => exact (Reps.one (show Kd.M (Kd.int .u64) _ _ _ a0 [.int .u64 a0] from rfl) (Reps.one (show Kd.M (Kd.int .u64) _ _ _ a1 [.int .u64 a1] from rfl) (Reps.none _ _)))); intro v225 w13 ho14 hb hg_ hnew_; clear hg_ hnew_; (first | rw [← Ny224.out] at ho14 | (simp only [Int.reduceToNat] at ho14; rw [← Ny224.out] at ho14)); refine ax2 (Kd.R_lower ho14 (below_size bel)) (below_step bel hb) ?_; clear HB; intro HO226 HB; clear hb ho14; obtain ⟨Ao15, co15, eo15⟩ := Kd.R_slice HO226.out; subst eo15) | ((with_reducible refine gate_callee (f := 45) rfl ?_); refine goesL_ (some 20) rfl rfl Try.func45 (by kernel_rfl) rfl #[.slice Ao15 y224.length co15] rfl ga ?_; (with_reducible refine (soft_nan.calls k _ _ y224 t227 t228 false _ ?side1 ?side2 A3.out).mono ?_); (case side1 => exact ks HO226); (case side2 => exact (Kd.R_reads' HO226.out).2.1); rintro e w' ⟨rfl, ⟨nd, rfl⟩⟩; refine ⟨_, rfl, ?_⟩) | ((with_reducible refine gate_callee (f := 39) rfl ?_); refine goesL_ (some 28) rfl rfl Try.func39 (by kernel_rfl) rfl #[.int .u64 a0] rfl ga ?_; (with_reducible refine (word_Neg.calls a0 t230 _ A8.out).mono ?_); rintro e w' ⟨rfl, ⟨nd, rfl⟩⟩; refine ⟨_, rfl, ?_⟩) | ((with_reducible refine gate_callee (f := 39) rfl ?_); refine goesL_ (some 30) rfl rfl Try.func39 (by kernel_rfl) rfl #[.int .u64 a1] rfl ga ?_; (with_reducible refine (word_Neg.calls a1 t231 _ A9.out).mono ?_); rintro e w' ⟨rfl, ⟨nd, rfl⟩⟩; refine ⟨_, rfl, ?_⟩) | ((with_reducible refine gate_callee (f := 27) rfl ?_); refine goesL_ (some 33) rfl rfl Try.func27 (by kernel_rfl) rfl #[.int .u64 a0] rfl ga ?_; (with_reducible refine (word_Kind.calls k a0 t232 _ A10.out).mono ?_); rintro e w' ⟨rfl, ⟨nd, rfl⟩⟩; refine ⟨_, rfl, ?_⟩) | ((with_reducible refine gate_callee (f := 27) rfl ?_); refine goesL_ (some 35) rfl rfl Try.func27 (by kernel_rfl) rfl #[.int .u64 a1] rfl ga ?_; (with_reducible refine (word_Kind.calls k a1 t233 _ A11.out).mono ?_); rintro e w' ⟨rfl, ⟨nd, rfl⟩⟩; refine ⟨_, rfl, ?_⟩))
  (try simp only [Act.put, sa0, sa1, sa2])
  go_cut [9, 36] (fun v9 v36 wc => ∃ (kq : Nat) (x9_11 : Bool) (x36_11 : Bool), v9 = .bool x9_11 ∧ v36 = .bool x36_11 ∧ Aside0 (soft_Mul.j0 kq a0 a1 x9_11 t232 t233 x36_11 = some (r1, r2)) ∧ Aside0 (kq ≤ k) ∧ Aside0 (Below w.heap.size w wc))
  case first =>
   have H := HC12.out
   clear HC12
   by_cases c16 : t232 = 4
   ·
    rw [if_pos c16] at H
    have c16b0 : (t232 == 4) = true := beq_iff_eq.mpr c16
    have c16b1 : (t232 != 4) = false := bne_eq_false_iff_eq.mpr c16
    clear c16
    (first | rw [c16b0] | (simp only [i64_w, i32_w]; rw [c16b0]) | skip)
    by_cases c17 : t233 = 1
    ·
     rw [if_pos c17] at H
     have c17b0 : (t233 == 1) = true := beq_iff_eq.mpr c17
     have c17b1 : (t233 != 1) = false := bne_eq_false_iff_eq.mpr c17
     clear c17
     have H' := Aside0.mk H
     clear H
     go_wp2
     go_meet
     case rel => exact ⟨_, ((t230 != t231)), (true), (by first | rfl | (simp; done) | (simp [*]; done)), (by first | rfl | (simp; done) | (simp [*]; done)), H', ⟨by first | omega | exact Nat.le_refl _⟩, ⟨bel⟩⟩
    ·
     rw [if_neg c17] at H
     have c17b0 : (t233 == 1) = false := beq_eq_false_iff_ne.mpr c17
     have c17b1 : (t233 != 1) = true := bne_iff_ne.mpr c17
     by_cases c18 : t232 = 1
     rotate_left
     ·
      rw [if_neg c18] at H
      have c18b0 : (t232 == 1) = false := beq_eq_false_iff_ne.mpr c18
      have c18b1 : (t232 != 1) = true := bne_iff_ne.mpr c18
      have H' := Aside0.mk H
      clear H
      go_wp2
      go_meet
      case rel => exact ⟨_, ((t230 != t231)), (false), (by first | rfl | (simp; done) | (simp [*]; done)), (by first | rfl | (simp; done) | (simp [*]; done)), H', ⟨by first | omega | exact Nat.le_refl _⟩, ⟨bel⟩⟩
     rw [if_pos c18] at H
     have c18b0 : (t232 == 1) = true := beq_iff_eq.mpr c18
     have c18b1 : (t232 != 1) = false := bne_eq_false_iff_eq.mpr c18
     clear c18
     have H' := Aside0.mk H
     clear H
     go_wp2
     go_meet
     case rel => exact ⟨_, ((t230 != t231)), ((t233 == 4)), (by first | rfl | (simp; done) | (simp [*]; done)), (by first | rfl | (simp; done) | (simp [*]; done)), H', ⟨by first | omega | exact Nat.le_refl _⟩, ⟨bel⟩⟩
   ·
    rw [if_neg c16] at H
    have c16b0 : (t232 == 4) = false := beq_eq_false_iff_ne.mpr c16
    have c16b1 : (t232 != 4) = true := bne_iff_ne.mpr c16
    (first | rw [c16b0] | (simp only [i64_w, i32_w]; rw [c16b0]) | skip)
    by_cases c19 : t232 = 1
    rotate_left
    ·
     rw [if_neg c19] at H
     have c19b0 : (t232 == 1) = false := beq_eq_false_iff_ne.mpr c19
     have c19b1 : (t232 != 1) = true := bne_iff_ne.mpr c19
     have H' := Aside0.mk H
     clear H
     go_wp2
     go_meet
     case rel => exact ⟨_, ((t230 != t231)), (false), (by first | rfl | (simp; done) | (simp [*]; done)), (by first | rfl | (simp; done) | (simp [*]; done)), H', ⟨by first | omega | exact Nat.le_refl _⟩, ⟨bel⟩⟩
    rw [if_pos c19] at H
    have c19b0 : (t232 == 1) = true := beq_iff_eq.mpr c19
    have c19b1 : (t232 != 1) = false := bne_eq_false_iff_eq.mpr c19
    clear c19
    have H' := Aside0.mk H
    clear H
    go_wp2
    go_meet
    case rel => exact ⟨_, ((t230 != t231)), ((t233 == 4)), (by first | rfl | (simp; done) | (simp [*]; done)), (by first | rfl | (simp; done) | (simp [*]; done)), H', ⟨by first | omega | exact Nat.le_refl _⟩, ⟨bel⟩⟩
  case rest =>
   clear HC12
   try clear c1
   try clear c2
   try clear p2
   try clear c3
   try clear c4
   try clear c16
   try clear c16b0
   try clear c16b1
   try clear c17
   try clear c17b0
   try clear c17b1
   try clear c18
   try clear c18b0
   try clear c18b1
   try clear c19
   try clear c19b0
   try clear c19b1
   obtain ⟨kq, x9_11, x36_11, rfl, rfl, HA, HJ11, HB⟩ := hcut
   cases kq with
   | zero => exact absurd HA.out (by simp [soft_Mul.j0])
   | succ kj11 =>
    have H := HA.out
    clear HA
    simp only [soft_Mul.j0] at H
    by_cases c20 : x36_11 = true
    ·
     subst c20
     rw [if_pos rfl] at H
     simp only [Option.some.injEq, Prod.mk.injEq] at H
     obtain ⟨rfl, rfl⟩ := H
     go_wp2
     go_ret2
     exact ⟨er, bel⟩
    ·
     replace c20 := Bool.eq_false_iff.mpr c20
     subst c20
     rw [if_neg (show ¬ (false = true) by decide)] at H
     by_cases c21 : t232 = 4
     ·
      rw [if_pos c21] at H
      have c21b0 : (t232 == 4) = true := beq_iff_eq.mpr c21
      have c21b1 : (t232 != 4) = false := bne_eq_false_iff_eq.mpr c21
      clear c21
      obtain ⟨t234, A220, H⟩ := Option.bind_eq_some_iff.mp H
      (try dsimp -simprocs only at H)
      have A22 := Aside0.mk A220
      clear A220
      simp only [Option.some.injEq, Prod.mk.injEq] at H
      obtain ⟨rfl, rfl⟩ := H
      go_wp2_with (first | ((with_reducible refine gate_callee (f := 46) rfl ?_); refine goesL_ (some 59) rfl rfl Try.func46 (by kernel_rfl) rfl #[.bool x9_11, .int .i64 2047, .int .u64 0] rfl ga ?_; (with_reducible refine (word_Make.calls x9_11 2047 0 t234 _ A22.out).mono ?_); rintro e w' ⟨rfl, ⟨nd, rfl⟩⟩; refine ⟨_, rfl, ?_⟩))
      go_ret2
      exact ⟨er, bel⟩
     ·
      rw [if_neg c21] at H
      have c21b0 : (t232 == 4) = false := beq_eq_false_iff_ne.mpr c21
      have c21b1 : (t232 != 4) = true := bne_iff_ne.mpr c21
      by_cases c23 : t233 = 4
      ·
       rw [if_pos c23] at H
       have c23b0 : (t233 == 4) = true := beq_iff_eq.mpr c23
       have c23b1 : (t233 != 4) = false := bne_eq_false_iff_eq.mpr c23
       clear c23
       obtain ⟨t235, A240, H⟩ := Option.bind_eq_some_iff.mp H
       (try dsimp -simprocs only at H)
       have A24 := Aside0.mk A240
       clear A240
       simp only [Option.some.injEq, Prod.mk.injEq] at H
       obtain ⟨rfl, rfl⟩ := H
       go_wp2_with (first | ((with_reducible refine gate_callee (f := 46) rfl ?_); refine goesL_ (some 59) rfl rfl Try.func46 (by kernel_rfl) rfl #[.bool x9_11, .int .i64 2047, .int .u64 0] rfl ga ?_; (with_reducible refine (word_Make.calls x9_11 2047 0 t235 _ A24.out).mono ?_); rintro e w' ⟨rfl, ⟨nd, rfl⟩⟩; refine ⟨_, rfl, ?_⟩))
       go_ret2
       exact ⟨er, bel⟩
      ·
       rw [if_neg c23] at H
       have c23b0 : (t233 == 4) = false := beq_eq_false_iff_ne.mpr c23
       have c23b1 : (t233 != 4) = true := bne_iff_ne.mpr c23
       obtain ⟨⟨t236, t237⟩, A250, H⟩ := Option.bind_eq_some_iff.mp H
       (try dsimp -simprocs only at H)
       have A25 := Aside0.mk A250
       clear A250
       obtain ⟨⟨t238, t239⟩, A260, H⟩ := Option.bind_eq_some_iff.mp H
       (try dsimp -simprocs only at H)
       have A26 := Aside0.mk A260
       clear A260
       obtain ⟨⟨t240, t241⟩, A270, H⟩ := Option.bind_eq_some_iff.mp H
       (try dsimp -simprocs only at H)
       have A27 := Aside0.mk A270
       clear A270
       obtain ⟨⟨t242, t243⟩, A280, H⟩ := Option.bind_eq_some_iff.mp H
       (try dsimp -simprocs only at H)
       have A28 := Aside0.mk A280
       clear A280
       simp only [Option.some.injEq, Prod.mk.injEq] at H
       obtain ⟨rfl, rfl⟩ := H
       go_wp2_with (first | ((with_reducible refine gate_callee (f := 47) rfl ?_); refine goesL_ (some 62) rfl rfl Try.func47 (by kernel_rfl) rfl #[.int .u64 a0] rfl ga ?_; (with_reducible refine (word_Parts.calls kj11 a0 t236 t237 _ A25.out).mono ?_); rintro e w' ⟨rfl, ⟨nd, rfl⟩⟩; refine ⟨_, rfl, ?_⟩) | ((with_reducible refine gate_callee (f := 47) rfl ?_); refine goesL_ (some 67) rfl rfl Try.func47 (by kernel_rfl) rfl #[.int .u64 a1] rfl ga ?_; (with_reducible refine (word_Parts.calls kj11 a1 t238 t239 _ A26.out).mono ?_); rintro e w' ⟨rfl, ⟨nd, rfl⟩⟩; refine ⟨_, rfl, ?_⟩) | ((with_reducible refine gate_callee (f := 48) rfl ?_); refine goesL_ (some 73) rfl rfl Try.func48 (by kernel_rfl) rfl #[.int .u64 t236, .int .u64 t238] rfl ga ?_; (with_reducible refine (wide_Mul.calls t236 t238 t240 t241 _ A27.out).mono ?_); rintro e w29 ⟨rfl, hb⟩; refine ⟨_, rfl, ?_⟩; refine ax1 (below_step bel hb) ?_; clear HB; intro HB; (try clear hb)) | ((with_reducible refine gate_callee (f := 36) rfl ?_); refine goesL_ (some 77) rfl rfl Try.func36 (by kernel_rfl) rfl #[.bool x9_11, .agg #[.int .u64 t240, .int .u64 t241], .int .i64 (wrap64 (t237 + t239)), .bool false] rfl ga ?_; (with_reducible refine (round_Round.calls kj11 x9_11 t240 t241 (wrap64 (t237 + t239)) false t242 t243 _ A28.out).mono ?_); rintro e w30 ⟨rfl, hb⟩; refine ⟨_, rfl, ?_⟩; refine ax1 (below_step bel hb) ?_; clear HB; intro HB; (try clear hb)))
       go_ret2
       exact ⟨er, bel⟩

/-! ### soft_Calc_Mul_nil: function 14 -/
def soft_Calc_Mul_nil.f (k : Nat)  (a1 : Int) (a2 : Int) : Option (Int) := (soft_Mul.f k a1 a2).bind fun bt248 => ((soft_Calc_note_nil.f bt248.1 bt248.2).bind fun t250 => (some t250))
theorem soft_Calc_Mul_nil.mono : ∀ a0 a1 k, LeO (soft_Calc_Mul_nil.f k a0 a1) (soft_Calc_Mul_nil.f (k + 1) a0 a1) := by
 intro a0 a1 k
 unfold soft_Calc_Mul_nil.f
 repeat' with_reducible first | apply soft_Mul.mono | exact LeO.refl _ | exact LeO.none _ | refine LeO.ite ?_ ?_ | refine LeO.bind ?_ (fun _ => ?_)
set_option maxHeartbeats 8000000 in
set_option maxRecDepth 100000 in
theorem soft_Calc_Mul_nil.calls (k : Nat)  (a1 : Int) (a2 : Int) (r : Int) (w : World) (h : soft_Calc_Mul_nil.f k a1 a2 = some r) :
  Calls Try.prog 14 #[.pointer none, .int .u64 a1, .int .u64 a2] w fun e w' => e = .returned (.int .u64 r) ∧ Below w.heap.size w w' := by
 have HB := Aside0.mk (Below.refl w.heap.size w)
 have H : ((soft_Mul.f k a1 a2).bind fun bt248 => ((soft_Calc_note_nil.f bt248.1 bt248.2).bind fun t250 => (some t250))) = some r := h
 clear h
 obtain ⟨⟨t248, t249⟩, A40, H⟩ := Option.bind_eq_some_iff.mp H
 (try dsimp -simprocs only at H)
 have A4 := Aside0.mk A40
 clear A40
 obtain ⟨t250, A50, H⟩ := Option.bind_eq_some_iff.mp H
 (try dsimp -simprocs only at H)
 have A5 := Aside0.mk A50
 clear A50
 obtain rfl := Option.some.inj H
 go_enter Try.func14, Try.ntmps14
 go_wp2_with (first | ((with_reducible refine gate_callee (f := 32) rfl ?_); refine goesL_ (some 10) rfl rfl Try.func32 (by kernel_rfl) rfl #[.int .u64 a1, .int .u64 a2] rfl ga ?_; (with_reducible refine (soft_Mul.calls k a1 a2 t248 t249 _ A4.out).mono ?_); rintro e w6 ⟨rfl, hb⟩; refine ⟨_, rfl, ?_⟩; refine ax1 (below_step bel hb) ?_; clear HB; intro HB; (try clear hb)) | ((with_reducible refine gate_callee (f := 30) rfl ?_); refine goesL_ (some 13) rfl rfl Try.func30 (by kernel_rfl) rfl #[.pointer none, .int .u64 t248, .int .u8 t249] rfl ga ?_; (with_reducible refine (soft_Calc_note_nil.calls  t248 t249 t250 _ A5.out).mono ?_); rintro e w' ⟨rfl, ⟨nd, rfl⟩⟩; refine ⟨_, rfl, ?_⟩))
 go_ret
 exact ⟨er, bel⟩

/-! ### bits_LeadingZeros64: function 61 -/
def bits_LeadingZeros64.f (k : Nat) (a0 : Int) : Option (Int) := (bits_Len64.f k a0).bind fun t251 => (some (wrap64 (64 - t251)))
theorem bits_LeadingZeros64.mono : ∀ a0 k, LeO (bits_LeadingZeros64.f k a0) (bits_LeadingZeros64.f (k + 1) a0) := by
 intro a0 k
 unfold bits_LeadingZeros64.f
 repeat' with_reducible first | apply bits_Len64.mono | exact LeO.refl _ | exact LeO.none _ | refine LeO.ite ?_ ?_ | refine LeO.bind ?_ (fun _ => ?_)
set_option maxHeartbeats 8000000 in
set_option maxRecDepth 100000 in
theorem bits_LeadingZeros64.calls (k : Nat) (a0 : Int) (r : Int) (w : World) (h : bits_LeadingZeros64.f k a0 = some r) :
  Calls Try.prog 61 #[.int .u64 a0] w fun e w' => e = .returned (.int .i64 r) ∧ Drawn0 w w' := by
 have H : ((bits_Len64.f k a0).bind fun t251 => (some (wrap64 (64 - t251)))) = some r := h
 clear h
 obtain ⟨t251, A20, H⟩ := Option.bind_eq_some_iff.mp H
 (try dsimp -simprocs only at H)
 have A2 := Aside0.mk A20
 clear A20
 obtain rfl := Option.some.inj H
 go_enter Try.func61, Try.ntmps61
 go_wp2_with (first | ((with_reducible refine gate_callee (f := 58) rfl ?_); refine goesL_ (some 4) rfl rfl Try.func58 (by kernel_rfl) rfl #[.int .u64 a0] rfl ga ?_; (with_reducible refine (bits_Len64.calls k a0 t251 _ A2.out).mono ?_); rintro e w' ⟨rfl, ⟨nd, rfl⟩⟩; refine ⟨_, rfl, ?_⟩))
 go_ret
 exact ⟨by first | rfl | (simp; done) | (simp [*]; done), by repeat (first | exact Drawn0.refl _ | apply Drawn0.step)⟩

/-! ### bits_Div64: function 59 -/
mutual
def bits_Div64.j2 : Nat → Int → Int → Int → Int → Int → Int → Int → Int → Option (Int × Int)
 | 0, _, _, _, _, _, _, _, _ => none
 | k + 1, x2, x8, x9, x10, x11, x13, x14, x15 => if x9 = 0 then (none) else (bits_Div64.l1 k x2 x8 x9 x10 x14 x15 (IntKind.u64.wrap ((IntKind.u64.wrap ((IntKind.u64.wrap ((IntKind.u64.wrap (x11 * 4294967296)) + x13)) - (IntKind.u64.wrap (x15 * x2)))) - (IntKind.u64.wrap ((IntKind.u64.wrap (Int.tdiv (IntKind.u64.wrap ((IntKind.u64.wrap ((IntKind.u64.wrap (x11 * 4294967296)) + x13)) - (IntKind.u64.wrap (x15 * x2)))) x9)) * x9)))) (IntKind.u64.wrap ((IntKind.u64.wrap ((IntKind.u64.wrap (x11 * 4294967296)) + x13)) - (IntKind.u64.wrap (x15 * x2)))) (IntKind.u64.wrap (Int.tdiv (IntKind.u64.wrap ((IntKind.u64.wrap ((IntKind.u64.wrap (x11 * 4294967296)) + x13)) - (IntKind.u64.wrap (x15 * x2)))) x9)))
def bits_Div64.l1 : Nat → Int → Int → Int → Int → Int → Int → Int → Int → Int → Option (Int × Int)
 | 0, _, _, _, _, _, _, _, _, _ => none
 | k + 1, x2, x8, x9, x10, x14, x15, x16, x17, x18 => if x18 ≥ 4294967296 then (bits_Div64.j4 k x2 x8 x9 x10 x14 x15 x16 x17 x18 true) else (bits_Div64.j4 k x2 x8 x9 x10 x14 x15 x16 x17 x18 (decide ((IntKind.u64.wrap (x18 * x10)) > (IntKind.u64.wrap ((IntKind.u64.wrap (4294967296 * x16)) + x14)))))
def bits_Div64.j4 : Nat → Int → Int → Int → Int → Int → Int → Int → Int → Int → Bool → Option (Int × Int)
 | 0, _, _, _, _, _, _, _, _, _, _ => none
 | k + 1, x2, x8, x9, x10, x14, x15, x16, x17, x18, x113 => if x113 = true then (if (IntKind.u64.wrap (x16 + x9)) ≥ 4294967296 then (if 0 ≤ x8 then (some (IntKind.u64.wrap ((IntKind.u64.wrap (x15 * 4294967296)) + (IntKind.u64.wrap (x18 - 1))), shr .u64 (IntKind.u64.wrap ((IntKind.u64.wrap ((IntKind.u64.wrap (x17 * 4294967296)) + x14)) - (IntKind.u64.wrap ((IntKind.u64.wrap (x18 - 1)) * x2)))) x8)) else (none)) else (bits_Div64.l1 k x2 x8 x9 x10 x14 x15 (IntKind.u64.wrap (x16 + x9)) x17 (IntKind.u64.wrap (x18 - 1)))) else (if 0 ≤ x8 then (some (IntKind.u64.wrap ((IntKind.u64.wrap (x15 * 4294967296)) + x18), shr .u64 (IntKind.u64.wrap ((IntKind.u64.wrap ((IntKind.u64.wrap (x17 * 4294967296)) + x14)) - (IntKind.u64.wrap (x18 * x2)))) x8)) else (none))
def bits_Div64.l0 : Nat → Int → Int → Int → Int → Int → Int → Int → Int → Int → Option (Int × Int)
 | 0, _, _, _, _, _, _, _, _, _ => none
 | k + 1, x2, x8, x9, x10, x11, x13, x14, x15, x16 => if x15 ≥ 4294967296 then (bits_Div64.j1 k x2 x8 x9 x10 x11 x13 x14 x15 x16 true) else (bits_Div64.j1 k x2 x8 x9 x10 x11 x13 x14 x15 x16 (decide ((IntKind.u64.wrap (x15 * x10)) > (IntKind.u64.wrap ((IntKind.u64.wrap (4294967296 * x16)) + x13)))))
def bits_Div64.j1 : Nat → Int → Int → Int → Int → Int → Int → Int → Int → Int → Bool → Option (Int × Int)
 | 0, _, _, _, _, _, _, _, _, _, _ => none
 | k + 1, x2, x8, x9, x10, x11, x13, x14, x15, x16, x78 => if x78 = true then (if (IntKind.u64.wrap (x16 + x9)) ≥ 4294967296 then (bits_Div64.j2 k x2 x8 x9 x10 x11 x13 x14 (IntKind.u64.wrap (x15 - 1))) else (bits_Div64.l0 k x2 x8 x9 x10 x11 x13 x14 (IntKind.u64.wrap (x15 - 1)) (IntKind.u64.wrap (x16 + x9)))) else (bits_Div64.j2 k x2 x8 x9 x10 x11 x13 x14 x15)
end
def bits_Div64.f (k : Nat) (a0 : Int) (a1 : Int) (a2 : Int) : Option (Int × Int) := if a2 = 0 then (none) else (if a2 ≤ a0 then (none) else (if a0 = 0 then (some (IntKind.u64.wrap (Int.tdiv a1 a2), Int.tmod a1 a2)) else ((bits_LeadingZeros64.f k a2).bind fun t252 => (if 0 ≤ (IntKind.u64.wrap (t252)) then (if 0 ≤ (IntKind.u64.wrap (64 - (IntKind.u64.wrap (t252)))) then (if ((shl .u64 a2 (IntKind.u64.wrap (t252))) / 4294967296) = 0 then (none) else (bits_Div64.l0 k (shl .u64 a2 (IntKind.u64.wrap (t252))) (IntKind.u64.wrap (t252)) ((shl .u64 a2 (IntKind.u64.wrap (t252))) / 4294967296) (Go.bits .and .u64 (shl .u64 a2 (IntKind.u64.wrap (t252))) 4294967295) (Go.bits .or .u64 (shl .u64 a0 (IntKind.u64.wrap (t252))) (shr .u64 a1 (IntKind.u64.wrap (64 - (IntKind.u64.wrap (t252)))))) ((shl .u64 a1 (IntKind.u64.wrap (t252))) / 4294967296) (Go.bits .and .u64 (shl .u64 a1 (IntKind.u64.wrap (t252))) 4294967295) (IntKind.u64.wrap (Int.tdiv (Go.bits .or .u64 (shl .u64 a0 (IntKind.u64.wrap (t252))) (shr .u64 a1 (IntKind.u64.wrap (64 - (IntKind.u64.wrap (t252)))))) ((shl .u64 a2 (IntKind.u64.wrap (t252))) / 4294967296))) (IntKind.u64.wrap ((Go.bits .or .u64 (shl .u64 a0 (IntKind.u64.wrap (t252))) (shr .u64 a1 (IntKind.u64.wrap (64 - (IntKind.u64.wrap (t252)))))) - (IntKind.u64.wrap ((IntKind.u64.wrap (Int.tdiv (Go.bits .or .u64 (shl .u64 a0 (IntKind.u64.wrap (t252))) (shr .u64 a1 (IntKind.u64.wrap (64 - (IntKind.u64.wrap (t252)))))) ((shl .u64 a2 (IntKind.u64.wrap (t252))) / 4294967296))) * ((shl .u64 a2 (IntKind.u64.wrap (t252))) / 4294967296))))))) else (none)) else (none)))))
theorem bits_Div64.mono_l : ∀ k, (∀ y0 y1 y2 y3 y4 y5 y6 y7, LeO (bits_Div64.j2 k y0 y1 y2 y3 y4 y5 y6 y7) (bits_Div64.j2 (k + 1) y0 y1 y2 y3 y4 y5 y6 y7)) ∧ (∀ y0 y1 y2 y3 y4 y5 y6 y7 y8, LeO (bits_Div64.l1 k y0 y1 y2 y3 y4 y5 y6 y7 y8) (bits_Div64.l1 (k + 1) y0 y1 y2 y3 y4 y5 y6 y7 y8)) ∧ (∀ y0 y1 y2 y3 y4 y5 y6 y7 y8 y9, LeO (bits_Div64.j4 k y0 y1 y2 y3 y4 y5 y6 y7 y8 y9) (bits_Div64.j4 (k + 1) y0 y1 y2 y3 y4 y5 y6 y7 y8 y9)) ∧ (∀ y0 y1 y2 y3 y4 y5 y6 y7 y8, LeO (bits_Div64.l0 k y0 y1 y2 y3 y4 y5 y6 y7 y8) (bits_Div64.l0 (k + 1) y0 y1 y2 y3 y4 y5 y6 y7 y8)) ∧ (∀ y0 y1 y2 y3 y4 y5 y6 y7 y8 y9, LeO (bits_Div64.j1 k y0 y1 y2 y3 y4 y5 y6 y7 y8 y9) (bits_Div64.j1 (k + 1) y0 y1 y2 y3 y4 y5 y6 y7 y8 y9))
 | 0 => ⟨fun _ _ _ _ _ _ _ _ r h => by simp [bits_Div64.j2] at h, fun _ _ _ _ _ _ _ _ _ r h => by simp [bits_Div64.l1] at h, fun _ _ _ _ _ _ _ _ _ _ r h => by simp [bits_Div64.j4] at h, fun _ _ _ _ _ _ _ _ _ r h => by simp [bits_Div64.l0] at h, fun _ _ _ _ _ _ _ _ _ _ r h => by simp [bits_Div64.j1] at h⟩
 | k + 1 => by
  obtain ⟨ih0, ih1, ih2, ih3, ih4⟩ := bits_Div64.mono_l k
  refine ⟨?_, ?_, ?_, ?_, ?_⟩ <;> intros <;> (first | unfold bits_Div64.j2 | unfold bits_Div64.l1 | unfold bits_Div64.j4 | unfold bits_Div64.l0 | unfold bits_Div64.j1) <;>
   repeat' with_reducible first | apply ih0 | apply ih1 | apply ih2 | apply ih3 | apply ih4 | apply bits_LeadingZeros64.mono | exact LeO.refl _ | exact LeO.none _ | refine LeO.ite ?_ ?_ | refine LeO.bind ?_ (fun _ => ?_)
theorem bits_Div64.mono : ∀ a0 a1 a2 k, LeO (bits_Div64.f k a0 a1 a2) (bits_Div64.f (k + 1) a0 a1 a2) := by
 intro a0 a1 a2 k
 obtain ⟨ih0, ih1, ih2, ih3, ih4⟩ := bits_Div64.mono_l k
 unfold bits_Div64.f
 repeat' with_reducible first | apply ih0 | apply ih1 | apply ih2 | apply ih3 | apply ih4 | apply bits_LeadingZeros64.mono | exact LeO.refl _ | exact LeO.none _ | refine LeO.ite ?_ ?_ | refine LeO.bind ?_ (fun _ => ?_)
set_option maxHeartbeats 8000000 in
set_option maxRecDepth 100000 in
theorem bits_Div64.calls (k : Nat) (a0 : Int) (a1 : Int) (a2 : Int) (r1 : Int) (r2 : Int) (w : World) (h : bits_Div64.f k a0 a1 a2 = some (r1, r2)) :
  Calls Try.prog 59 #[.int .u64 a0, .int .u64 a1, .int .u64 a2] w fun e w' => e = .returned (.tuple #[.int .u64 r1, .int .u64 r2]) ∧ Drawn0 w w' := by
 have H : (if a2 = 0 then (none) else (if a2 ≤ a0 then (none) else (if a0 = 0 then (some (IntKind.u64.wrap (Int.tdiv a1 a2), Int.tmod a1 a2)) else ((bits_LeadingZeros64.f k a2).bind fun t252 => (if 0 ≤ (IntKind.u64.wrap (t252)) then (if 0 ≤ (IntKind.u64.wrap (64 - (IntKind.u64.wrap (t252)))) then (if ((shl .u64 a2 (IntKind.u64.wrap (t252))) / 4294967296) = 0 then (none) else (bits_Div64.l0 k (shl .u64 a2 (IntKind.u64.wrap (t252))) (IntKind.u64.wrap (t252)) ((shl .u64 a2 (IntKind.u64.wrap (t252))) / 4294967296) (Go.bits .and .u64 (shl .u64 a2 (IntKind.u64.wrap (t252))) 4294967295) (Go.bits .or .u64 (shl .u64 a0 (IntKind.u64.wrap (t252))) (shr .u64 a1 (IntKind.u64.wrap (64 - (IntKind.u64.wrap (t252)))))) ((shl .u64 a1 (IntKind.u64.wrap (t252))) / 4294967296) (Go.bits .and .u64 (shl .u64 a1 (IntKind.u64.wrap (t252))) 4294967295) (IntKind.u64.wrap (Int.tdiv (Go.bits .or .u64 (shl .u64 a0 (IntKind.u64.wrap (t252))) (shr .u64 a1 (IntKind.u64.wrap (64 - (IntKind.u64.wrap (t252)))))) ((shl .u64 a2 (IntKind.u64.wrap (t252))) / 4294967296))) (IntKind.u64.wrap ((Go.bits .or .u64 (shl .u64 a0 (IntKind.u64.wrap (t252))) (shr .u64 a1 (IntKind.u64.wrap (64 - (IntKind.u64.wrap (t252)))))) - (IntKind.u64.wrap ((IntKind.u64.wrap (Int.tdiv (Go.bits .or .u64 (shl .u64 a0 (IntKind.u64.wrap (t252))) (shr .u64 a1 (IntKind.u64.wrap (64 - (IntKind.u64.wrap (t252)))))) ((shl .u64 a2 (IntKind.u64.wrap (t252))) / 4294967296))) * ((shl .u64 a2 (IntKind.u64.wrap (t252))) / 4294967296))))))) else (none)) else (none)))))) = some (r1, r2) := h
 clear h
 by_cases c4 : a2 = 0
 ·
  rw [if_pos c4] at H
  exact absurd H (by simp)
 ·
  rw [if_neg c4] at H
  have c4b0 : (a2 == 0) = false := beq_eq_false_iff_ne.mpr c4
  have c4b1 : (a2 != 0) = true := bne_iff_ne.mpr c4
  by_cases c5 : a2 ≤ a0
  ·
   rw [if_pos c5] at H
   exact absurd H (by simp)
  ·
   rw [if_neg c5] at H
   have c5b0 : decide (a2 ≤ a0) = false := decide_eq_false c5
   clear c5
   by_cases c6 : a0 = 0
   ·
    rw [if_pos c6] at H
    have c6b0 : (a0 == 0) = true := beq_iff_eq.mpr c6
    have c6b1 : (a0 != 0) = false := bne_eq_false_iff_eq.mpr c6
    clear c6
    simp only [Option.some.injEq, Prod.mk.injEq] at H
    obtain ⟨rfl, rfl⟩ := H
    go_enter Try.func59, Try.ntmps59
    go_wp2
    repeat (go_quiet (fail); try go_wp2)
    go_ret2
    exact ⟨by first | rfl | (simp; done) | (simp [*]; done), by repeat (first | exact Drawn0.refl _ | apply Drawn0.step)⟩
   ·
    rw [if_neg c6] at H
    have c6b0 : (a0 == 0) = false := beq_eq_false_iff_ne.mpr c6
    have c6b1 : (a0 != 0) = true := bne_iff_ne.mpr c6
    obtain ⟨t252, A70, H⟩ := Option.bind_eq_some_iff.mp H
    (try dsimp -simprocs only at H)
    have A7 := Aside0.mk A70
    clear A70
    obtain ⟨ji8, hji8⟩ : ∃ j_ : Int, (IntKind.u64.wrap (t252)) = j_ := ⟨_, rfl⟩
    replace H : (if 0 ≤ (ji8) then (if 0 ≤ (IntKind.u64.wrap (64 - (ji8))) then (if ((shl .u64 a2 (ji8)) / 4294967296) = 0 then (none) else (bits_Div64.l0 k (shl .u64 a2 (ji8)) ji8 ((shl .u64 a2 (ji8)) / 4294967296) (Go.bits .and .u64 (shl .u64 a2 (ji8)) 4294967295) (Go.bits .or .u64 (shl .u64 a0 (ji8)) (shr .u64 a1 (IntKind.u64.wrap (64 - (ji8))))) ((shl .u64 a1 (ji8)) / 4294967296) (Go.bits .and .u64 (shl .u64 a1 (ji8)) 4294967295) (IntKind.u64.wrap (Int.tdiv (Go.bits .or .u64 (shl .u64 a0 (ji8)) (shr .u64 a1 (IntKind.u64.wrap (64 - (ji8))))) ((shl .u64 a2 (ji8)) / 4294967296))) (IntKind.u64.wrap ((Go.bits .or .u64 (shl .u64 a0 (ji8)) (shr .u64 a1 (IntKind.u64.wrap (64 - (ji8))))) - (IntKind.u64.wrap ((IntKind.u64.wrap (Int.tdiv (Go.bits .or .u64 (shl .u64 a0 (ji8)) (shr .u64 a1 (IntKind.u64.wrap (64 - (ji8))))) ((shl .u64 a2 (ji8)) / 4294967296))) * ((shl .u64 a2 (ji8)) / 4294967296))))))) else (none)) else (none)) = some (r1, r2) := by first | (rw [hji8] at H; exact H) | (simp only [hji8] at H ⊢; exact H)
    (try rw [hji8] at A7)
    by_cases c9 : 0 ≤ (ji8)
    rotate_left
    ·
     rw [if_neg c9] at H
     exact absurd H (by simp)

    rw [if_pos c9] at H
    have c9b0 := eq_true c9
    have c9b1 : decide (0 ≤ (ji8)) = true := decide_eq_true c9
    clear c9
    obtain ⟨ji10, hji10⟩ : ∃ j_ : Int, (shl .u64 a2 (ji8)) = j_ := ⟨_, rfl⟩
    replace H : (if 0 ≤ (IntKind.u64.wrap (64 - (ji8))) then (if ((ji10) / 4294967296) = 0 then (none) else (bits_Div64.l0 k ji10 ji8 ((ji10) / 4294967296) (Go.bits .and .u64 (ji10) 4294967295) (Go.bits .or .u64 (shl .u64 a0 (ji8)) (shr .u64 a1 (IntKind.u64.wrap (64 - (ji8))))) ((shl .u64 a1 (ji8)) / 4294967296) (Go.bits .and .u64 (shl .u64 a1 (ji8)) 4294967295) (IntKind.u64.wrap (Int.tdiv (Go.bits .or .u64 (shl .u64 a0 (ji8)) (shr .u64 a1 (IntKind.u64.wrap (64 - (ji8))))) ((ji10) / 4294967296))) (IntKind.u64.wrap ((Go.bits .or .u64 (shl .u64 a0 (ji8)) (shr .u64 a1 (IntKind.u64.wrap (64 - (ji8))))) - (IntKind.u64.wrap ((IntKind.u64.wrap (Int.tdiv (Go.bits .or .u64 (shl .u64 a0 (ji8)) (shr .u64 a1 (IntKind.u64.wrap (64 - (ji8))))) ((ji10) / 4294967296))) * ((ji10) / 4294967296))))))) else (none)) = some (r1, r2) := by first | (rw [hji10] at H; exact H) | (simp only [hji10] at H ⊢; exact H)
    (try rw [hji10] at A7)
    have hji10_ : (IntKind.u64.wrap (a2 * 2 ^ min (ji8).toNat 64)) = ji10 := hji10
    have hji10z : (ji8) ≤ 64 → (IntKind.u64.wrap (a2 * 2 ^ (ji8).toNat)) = ji10 := shl_small hji10
    have c11b0 := eq_true (of_decide_eq_true (by first | (with_reducible assumption) | assumption) : 0 ≤ (ji8))
    obtain ⟨ji12, hji12⟩ : ∃ j_ : Int, (shl .u64 a0 (ji8)) = j_ := ⟨_, rfl⟩
    replace H : (if 0 ≤ (IntKind.u64.wrap (64 - (ji8))) then (if ((ji10) / 4294967296) = 0 then (none) else (bits_Div64.l0 k ji10 ji8 ((ji10) / 4294967296) (Go.bits .and .u64 (ji10) 4294967295) (Go.bits .or .u64 (ji12) (shr .u64 a1 (IntKind.u64.wrap (64 - (ji8))))) ((shl .u64 a1 (ji8)) / 4294967296) (Go.bits .and .u64 (shl .u64 a1 (ji8)) 4294967295) (IntKind.u64.wrap (Int.tdiv (Go.bits .or .u64 (ji12) (shr .u64 a1 (IntKind.u64.wrap (64 - (ji8))))) ((ji10) / 4294967296))) (IntKind.u64.wrap ((Go.bits .or .u64 (ji12) (shr .u64 a1 (IntKind.u64.wrap (64 - (ji8))))) - (IntKind.u64.wrap ((IntKind.u64.wrap (Int.tdiv (Go.bits .or .u64 (ji12) (shr .u64 a1 (IntKind.u64.wrap (64 - (ji8))))) ((ji10) / 4294967296))) * ((ji10) / 4294967296))))))) else (none)) = some (r1, r2) := by first | (rw [hji12] at H; exact H) | (simp only [hji12] at H ⊢; exact H)
    (try rw [hji12] at A7)
    have hji12_ : (IntKind.u64.wrap (a0 * 2 ^ min (ji8).toNat 64)) = ji12 := hji12
    have hji12z : (ji8) ≤ 64 → (IntKind.u64.wrap (a0 * 2 ^ (ji8).toNat)) = ji12 := shl_small hji12
    obtain ⟨ji13, hji13⟩ : ∃ j_ : Int, (IntKind.u64.wrap (64 - (ji8))) = j_ := ⟨_, rfl⟩
    replace H : (if 0 ≤ (ji13) then (if ((ji10) / 4294967296) = 0 then (none) else (bits_Div64.l0 k ji10 ji8 ((ji10) / 4294967296) (Go.bits .and .u64 (ji10) 4294967295) (Go.bits .or .u64 (ji12) (shr .u64 a1 (ji13))) ((shl .u64 a1 (ji8)) / 4294967296) (Go.bits .and .u64 (shl .u64 a1 (ji8)) 4294967295) (IntKind.u64.wrap (Int.tdiv (Go.bits .or .u64 (ji12) (shr .u64 a1 (ji13))) ((ji10) / 4294967296))) (IntKind.u64.wrap ((Go.bits .or .u64 (ji12) (shr .u64 a1 (ji13))) - (IntKind.u64.wrap ((IntKind.u64.wrap (Int.tdiv (Go.bits .or .u64 (ji12) (shr .u64 a1 (ji13))) ((ji10) / 4294967296))) * ((ji10) / 4294967296))))))) else (none)) = some (r1, r2) := by first | (rw [hji13] at H; exact H) | (simp only [hji13] at H ⊢; exact H)
    (try rw [hji13] at A7)
    by_cases c14 : 0 ≤ (ji13)
    rotate_left
    ·
     rw [if_neg c14] at H
     exact absurd H (by simp)
    rw [if_pos c14] at H
    have c14b0 := eq_true c14
    have c14b1 : decide (0 ≤ (ji13)) = true := decide_eq_true c14
    clear c14
    obtain ⟨ji15, hji15⟩ : ∃ j_ : Int, (shr .u64 a1 (ji13)) = j_ := ⟨_, rfl⟩
    replace H : (if ((ji10) / 4294967296) = 0 then (none) else (bits_Div64.l0 k ji10 ji8 ((ji10) / 4294967296) (Go.bits .and .u64 (ji10) 4294967295) (Go.bits .or .u64 (ji12) (ji15)) ((shl .u64 a1 (ji8)) / 4294967296) (Go.bits .and .u64 (shl .u64 a1 (ji8)) 4294967295) (IntKind.u64.wrap (Int.tdiv (Go.bits .or .u64 (ji12) (ji15)) ((ji10) / 4294967296))) (IntKind.u64.wrap ((Go.bits .or .u64 (ji12) (ji15)) - (IntKind.u64.wrap ((IntKind.u64.wrap (Int.tdiv (Go.bits .or .u64 (ji12) (ji15)) ((ji10) / 4294967296))) * ((ji10) / 4294967296))))))) = some (r1, r2) := by first | (rw [hji15] at H; exact H) | (simp only [hji15] at H ⊢; exact H)
    (try rw [hji15] at A7)
    have hji15_ : (a1 / 2 ^ min (ji13).toNat 64) = ji15 := hji15
    have hji15z : (ji13) ≤ 64 → (a1 / 2 ^ (ji13).toNat) = ji15 := shr_small hji15
    have c16b0 := eq_true (of_decide_eq_true (by first | (with_reducible assumption) | assumption) : 0 ≤ (ji8))
    obtain ⟨ji17, hji17⟩ : ∃ j_ : Int, (shl .u64 a1 (ji8)) = j_ := ⟨_, rfl⟩
    replace H : (if ((ji10) / 4294967296) = 0 then (none) else (bits_Div64.l0 k ji10 ji8 ((ji10) / 4294967296) (Go.bits .and .u64 (ji10) 4294967295) (Go.bits .or .u64 (ji12) (ji15)) ((ji17) / 4294967296) (Go.bits .and .u64 (ji17) 4294967295) (IntKind.u64.wrap (Int.tdiv (Go.bits .or .u64 (ji12) (ji15)) ((ji10) / 4294967296))) (IntKind.u64.wrap ((Go.bits .or .u64 (ji12) (ji15)) - (IntKind.u64.wrap ((IntKind.u64.wrap (Int.tdiv (Go.bits .or .u64 (ji12) (ji15)) ((ji10) / 4294967296))) * ((ji10) / 4294967296))))))) = some (r1, r2) := by first | (rw [hji17] at H; exact H) | (simp only [hji17] at H ⊢; exact H)
    (try rw [hji17] at A7)
    have hji17_ : (IntKind.u64.wrap (a1 * 2 ^ min (ji8).toNat 64)) = ji17 := hji17
    have hji17z : (ji8) ≤ 64 → (IntKind.u64.wrap (a1 * 2 ^ (ji8).toNat)) = ji17 := shl_small hji17
    by_cases c18 : ((ji10) / 4294967296) = 0
    ·
     rw [if_pos c18] at H
     exact absurd H (by simp)
    ·
     rw [if_neg c18] at H
     have c18b0 : (((ji10) / 4294967296) == 0) = false := beq_eq_false_iff_ne.mpr c18
     have c18b1 : (((ji10) / 4294967296) != 0) = true := bne_iff_ne.mpr c18
     have HC19 := Aside0.mk H
     clear H
     go_enter Try.func59, Try.ntmps59
     go_upto_block 0 with (first | (go_at_call 61; (with_reducible refine (bits_LeadingZeros64.calls k a2 t252 _ A7.out).mono ?_); rintro e w' ⟨rfl, ⟨nd, rfl⟩⟩; (try first | exact dn1 | exact dn2)))
     repeat (go_quiet (first | (go_at_call 61; (with_reducible refine (bits_LeadingZeros64.calls k a2 t252 _ A7.out).mono ?_); rintro e w' ⟨rfl, ⟨nd, rfl⟩⟩; (try first | exact dn1 | exact dn2))); go_upto_block 0 with (first | (go_at_call 61; (with_reducible refine (bits_LeadingZeros64.calls k a2 t252 _ A7.out).mono ?_); rintro e w' ⟨rfl, ⟨nd, rfl⟩⟩; (try first | exact dn1 | exact dn2))))
     (try simp only [Act.put, sa0, sa1, sa2])
     go_cut [15] (fun v15 wc => ∃ (kq : Nat) (x15_18 : Int), v15 = .int .u64 x15_18 ∧ Aside0 (bits_Div64.j2 kq ji10 ji8 ((ji10) / 4294967296) (Go.bits .and .u64 (ji10) 4294967295) (Go.bits .or .u64 (ji12) (ji15)) ((ji17) / 4294967296) (Go.bits .and .u64 (ji17) 4294967295) x15_18 = some (r1, r2)) ∧ Aside0 (kq ≤ k) ∧ Drawn0 w wc)
     case first =>
      have H := HC19.out
      clear HC19
      have H' := Aside0.mk H
      clear H
      go_wp2
      repeat (go_quiet (fail); try go_wp2)
      go_loopg [15, 16] k (fun kq v15 v16 w' => ∃ (x15_1 : Int) (x16_1 : Int), v15 = .int .u64 x15_1 ∧ v16 = .int .u64 x16_1 ∧ Aside0 (bits_Div64.l0 kq ji10 ji8 ((ji10) / 4294967296) (Go.bits .and .u64 (ji10) 4294967295) (Go.bits .or .u64 (ji12) (ji15)) ((ji17) / 4294967296) (Go.bits .and .u64 (ji17) 4294967295) x15_1 x16_1 = some (r1, r2)) ∧ Aside0 (kq ≤ k) ∧ Drawn0 w w')
      case atStart => exact ⟨(IntKind.u64.wrap (Int.tdiv (Go.bits .or .u64 (ji12) (ji15)) ((ji10) / 4294967296))), (IntKind.u64.wrap ((Go.bits .or .u64 (ji12) (ji15)) - (IntKind.u64.wrap ((IntKind.u64.wrap (Int.tdiv (Go.bits .or .u64 (ji12) (ji15)) ((ji10) / 4294967296))) * ((ji10) / 4294967296))))), (by first | rfl | (simp; done) | (simp only [← hji10, ← hji12, ← hji15] <;> (first | rfl | simp)) | (simp [*]; done)), (by first | rfl | (simp; done) | (simp only [← hji10, ← hji12, ← hji15] <;> (first | rfl | simp)) | (simp [*]; done)), H', ⟨Nat.le_refl _⟩, by repeat (first | exact Drawn0.refl _ | apply Drawn0.step)⟩
      case round =>
       clear H'
       try clear c1
       try clear p2
       try clear c4
       try clear c4b0
       try clear c4b1
       try clear c5
       try clear c5b0
       try clear c6
       try clear c6b0
       try clear c6b1
       try clear c9
       try clear c9b0
       try clear c9b1
       try clear c11
       try clear c11b0
       try clear c14
       try clear c14b0
       try clear c14b1
       try clear c16
       try clear c16b0
       try clear c18
       try clear c18b0
       try clear c18b1
       obtain ⟨x15_1, x16_1, rfl, rfl, HA, HK1, ⟨m1, rfl⟩⟩ := hrel
       cases gk with
       | zero => exact absurd HA.out (by simp [bits_Div64.l0])
       | succ k1 =>
        have H := HA.out
        clear HA
        simp only [bits_Div64.l0] at H
        have HC20 := Aside0.mk H
        clear H
        go_upto_region 17 with (fail)
        repeat (go_quiet (fail); go_upto_region 17 with (fail))
        go_cut [78] (fun v78 wc => ∃ (kq : Nat) (x78_19 : Bool), v78 = .bool x78_19 ∧ Aside0 (bits_Div64.j1 kq ji10 ji8 ((ji10) / 4294967296) (Go.bits .and .u64 (ji10) 4294967295) (Go.bits .or .u64 (ji12) (ji15)) ((ji17) / 4294967296) (Go.bits .and .u64 (ji17) 4294967295) x15_1 x16_1 x78_19 = some (r1, r2)) ∧ Aside0 (kq ≤ k1) ∧ Drawn0 w wc)
        case first =>
         have H := HC20.out
         clear HC20
         by_cases c21 : x15_1 ≥ 4294967296
         rotate_left
         ·
          rw [if_neg c21] at H
          have c21b0 : decide (4294967296 ≤ x15_1) = false := decide_eq_false c21
          clear c21
          (first | rw [c21b0] | (simp only [i64_w, i32_w]; rw [c21b0]) | skip)
          have H' := Aside0.mk H
          clear H
          go_wp2
          repeat (go_quiet (fail); try go_wp2)
          go_meet
          case rel => exact ⟨_, (decide ((IntKind.u64.wrap (x15_1 * (Go.bits .and .u64 (ji10) 4294967295))) > (IntKind.u64.wrap ((IntKind.u64.wrap (4294967296 * x16_1)) + ((ji17) / 4294967296))))), (by first | rfl | (simp; done) | (simp only [← hji10, ← hji17] <;> (first | rfl | simp)) | (simp [*]; done)), H', ⟨by have := HK1.out; first | omega | exact Nat.le_refl _⟩, by repeat (first | exact Drawn0.refl _ | apply Drawn0.step)⟩
         rw [if_pos c21] at H
         have c21b0 : decide (4294967296 ≤ x15_1) = true := decide_eq_true c21
         clear c21
         (first | rw [c21b0] | (simp only [i64_w, i32_w]; rw [c21b0]) | skip)
         have H' := Aside0.mk H
         clear H
         go_wp2
         repeat (go_quiet (fail); try go_wp2)
         go_meet
         case rel => exact ⟨_, (true), (by first | rfl | (simp; done) | (simp [*]; done)), H', ⟨by have := HK1.out; first | omega | exact Nat.le_refl _⟩, by repeat (first | exact Drawn0.refl _ | apply Drawn0.step)⟩
        case rest =>
         clear HC20
         try clear c1
         try clear c2
         try clear p2
         try clear c4
         try clear c4b0
         try clear c4b1
         try clear c5
         try clear c5b0
         try clear c6
         try clear c6b0
         try clear c6b1
         try clear c9
         try clear c9b0
         try clear c9b1
         try clear c11
         try clear c11b0
         try clear c14
         try clear c14b0
         try clear c14b1
         try clear c16
         try clear c16b0
         try clear c18
         try clear c18b0
         try clear c18b1
         try clear c21
         try clear c21b0
         try clear p2
         obtain ⟨kq, x78_19, rfl, HA, HJ19, ⟨mc19, rfl⟩⟩ := hcut
         cases kq with
         | zero => exact absurd HA.out (by simp [bits_Div64.j1])
         | succ kj19 =>
          have H := HA.out
          clear HA
          simp only [bits_Div64.j1] at H
          by_cases c22 : x78_19 = true
          rotate_left
          ·
           replace c22 := Bool.eq_false_iff.mpr c22
           subst c22
           rw [if_neg (show ¬ (false = true) by decide)] at H
           have H' := Aside0.mk H
           clear H
           go_wp2
           repeat (go_quiet (fail); try go_wp2)
           go_meet
           case rel => exact ⟨_, (x15_1), (by first | rfl | (simp; done) | (simp [*]; done)), H', ⟨by have := HK1.out; have := HJ19.out; first | omega | exact Nat.le_refl _⟩, by repeat (first | exact Drawn0.refl _ | apply Drawn0.step)⟩
          subst c22
          rw [if_pos rfl] at H
          by_cases c23 : (IntKind.u64.wrap (x16_1 + ((ji10) / 4294967296))) ≥ 4294967296
          ·
           rw [if_pos c23] at H
           have c23b0 : decide (4294967296 ≤ (IntKind.u64.wrap (x16_1 + ((ji10) / 4294967296)))) = true := decide_eq_true c23
           clear c23
           have H' := Aside0.mk H
           clear H
           go_wp2
           repeat (go_quiet (fail); try go_wp2)
           go_meet
           case rel => exact ⟨_, (IntKind.u64.wrap (x15_1 - 1)), (by first | rfl | (simp; done) | (simp [*]; done)), H', ⟨by have := HK1.out; have := HJ19.out; first | omega | exact Nat.le_refl _⟩, by repeat (first | exact Drawn0.refl _ | apply Drawn0.step)⟩
          ·
           rw [if_neg c23] at H
           have c23b0 : decide (4294967296 ≤ (IntKind.u64.wrap (x16_1 + ((ji10) / 4294967296)))) = false := decide_eq_false c23
           clear c23
           have H' := Aside0.mk H
           clear H
           go_wp2
           repeat (go_quiet (fail); try go_wp2)
           go_roundg kj19
           case measure => have := HK1.out; have := HJ19.out; omega
           case rel => exact ⟨(IntKind.u64.wrap (x15_1 - 1)), (IntKind.u64.wrap (x16_1 + ((ji10) / 4294967296))), (by first | rfl | (simp; done) | (simp [*]; done)), (by first | rfl | (simp; done) | (simp only [← hji10] <;> (first | rfl | simp)) | (simp [*]; done)), H', ⟨by have := HK1.out; have := HJ19.out; omega⟩, by repeat (first | exact Drawn0.refl _ | apply Drawn0.step)⟩
     case rest =>
      clear HC19
      try clear c1
      try clear c2
      try clear p2
      try clear c4
      try clear c4b0
      try clear c4b1
      try clear c5
      try clear c5b0
      try clear c6
      try clear c6b0
      try clear c6b1
      try clear c9
      try clear c9b0
      try clear c9b1
      try clear c11
      try clear c11b0
      try clear c14
      try clear c14b0
      try clear c14b1
      try clear c16
      try clear c16b0
      try clear c18
      try clear c18b0
      try clear c18b1
      try clear c19
      try clear c21
      try clear c21b0
      try clear c22
      try clear c23
      try clear c23b0
      try clear p2
      obtain ⟨kq, x15_18, rfl, HA, HJ18, ⟨mc18, rfl⟩⟩ := hcut
      cases kq with
      | zero => exact absurd HA.out (by simp [bits_Div64.j2])
      | succ kj18 =>
       have H := HA.out
       clear HA
       simp only [bits_Div64.j2] at H
       by_cases c24 : ((ji10) / 4294967296) = 0
       ·
        rw [if_pos c24] at H
        exact absurd H (by simp)
       ·
        rw [if_neg c24] at H
        have c24b0 : (((ji10) / 4294967296) == 0) = false := beq_eq_false_iff_ne.mpr c24
        have c24b1 : (((ji10) / 4294967296) != 0) = true := bne_iff_ne.mpr c24
        have H' := Aside0.mk H
        clear H
        go_wp2
        repeat (go_quiet (fail); try go_wp2)
        go_loopg [16, 18] kj18 (fun kq v16 v18 w' => ∃ (x16_2 : Int) (x18_2 : Int), v16 = .int .u64 x16_2 ∧ v18 = .int .u64 x18_2 ∧ Aside0 (bits_Div64.l1 kq ji10 ji8 ((ji10) / 4294967296) (Go.bits .and .u64 (ji10) 4294967295) (Go.bits .and .u64 (ji17) 4294967295) x15_18 x16_2 (IntKind.u64.wrap ((IntKind.u64.wrap ((IntKind.u64.wrap ((Go.bits .or .u64 (ji12) (ji15)) * 4294967296)) + ((ji17) / 4294967296))) - (IntKind.u64.wrap (x15_18 * ji10)))) x18_2 = some (r1, r2)) ∧ Aside0 (kq ≤ kj18) ∧ Drawn0 w w')
        case atStart => exact ⟨(IntKind.u64.wrap ((IntKind.u64.wrap ((IntKind.u64.wrap ((IntKind.u64.wrap ((Go.bits .or .u64 (ji12) (ji15)) * 4294967296)) + ((ji17) / 4294967296))) - (IntKind.u64.wrap (x15_18 * ji10)))) - (IntKind.u64.wrap ((IntKind.u64.wrap (Int.tdiv (IntKind.u64.wrap ((IntKind.u64.wrap ((IntKind.u64.wrap ((Go.bits .or .u64 (ji12) (ji15)) * 4294967296)) + ((ji17) / 4294967296))) - (IntKind.u64.wrap (x15_18 * ji10)))) ((ji10) / 4294967296))) * ((ji10) / 4294967296))))), (IntKind.u64.wrap (Int.tdiv (IntKind.u64.wrap ((IntKind.u64.wrap ((IntKind.u64.wrap ((Go.bits .or .u64 (ji12) (ji15)) * 4294967296)) + ((ji17) / 4294967296))) - (IntKind.u64.wrap (x15_18 * ji10)))) ((ji10) / 4294967296))), (by first | rfl | (simp; done) | (simp only [← hji10, ← hji12, ← hji15, ← hji17] <;> (first | rfl | simp)) | (simp [*]; done)), (by first | rfl | (simp; done) | (simp only [← hji10, ← hji12, ← hji15, ← hji17] <;> (first | rfl | simp)) | (simp [*]; done)), H', ⟨Nat.le_refl _⟩, by repeat (first | exact Drawn0.refl _ | apply Drawn0.step)⟩
        case round =>
         clear H'
         try clear c1
         try clear c2
         try clear p2
         try clear c4
         try clear c4b0
         try clear c4b1
         try clear c5
         try clear c5b0
         try clear c6
         try clear c6b0
         try clear c6b1
         try clear c9
         try clear c9b0
         try clear c9b1
         try clear c11
         try clear c11b0
         try clear c14
         try clear c14b0
         try clear c14b1
         try clear c16
         try clear c16b0
         try clear c18
         try clear c18b0
         try clear c18b1
         try clear c19
         try clear c21
         try clear c21b0
         try clear c22
         try clear c23
         try clear c23b0
         try clear c24
         try clear c24b0
         try clear c24b1
         try clear p2
         obtain ⟨x16_2, x18_2, rfl, rfl, HA, HK2, ⟨m2, rfl⟩⟩ := hrel
         cases gk with
         | zero => exact absurd HA.out (by simp [bits_Div64.l1])
         | succ k2 =>
          have H := HA.out
          clear HA
          simp only [bits_Div64.l1] at H
          have HC25 := Aside0.mk H
          clear H
          go_upto_region 24 with (fail)
          repeat (go_quiet (fail); go_upto_region 24 with (fail))
          go_cut [113] (fun v113 wc => ∃ (kq : Nat) (x113_24 : Bool), v113 = .bool x113_24 ∧ Aside0 (bits_Div64.j4 kq ji10 ji8 ((ji10) / 4294967296) (Go.bits .and .u64 (ji10) 4294967295) (Go.bits .and .u64 (ji17) 4294967295) x15_18 x16_2 (IntKind.u64.wrap ((IntKind.u64.wrap ((IntKind.u64.wrap ((Go.bits .or .u64 (ji12) (ji15)) * 4294967296)) + ((ji17) / 4294967296))) - (IntKind.u64.wrap (x15_18 * ji10)))) x18_2 x113_24 = some (r1, r2)) ∧ Aside0 (kq ≤ k2) ∧ Drawn0 w wc)
          case first =>
           have H := HC25.out
           clear HC25
           by_cases c26 : x18_2 ≥ 4294967296
           rotate_left
           ·
            rw [if_neg c26] at H
            have c26b0 : decide (4294967296 ≤ x18_2) = false := decide_eq_false c26
            clear c26
            (first | rw [c26b0] | (simp only [i64_w, i32_w]; rw [c26b0]) | skip)
            have H' := Aside0.mk H
            clear H
            go_wp2
            repeat (go_quiet (fail); try go_wp2)
            go_meet
            case rel => exact ⟨_, (decide ((IntKind.u64.wrap (x18_2 * (Go.bits .and .u64 (ji10) 4294967295))) > (IntKind.u64.wrap ((IntKind.u64.wrap (4294967296 * x16_2)) + (Go.bits .and .u64 (ji17) 4294967295))))), (by first | rfl | (simp; done) | (simp only [← hji10, ← hji17] <;> (first | rfl | simp)) | (simp [*]; done)), H', ⟨by have := HJ18.out; have := HK2.out; first | omega | exact Nat.le_refl _⟩, by repeat (first | exact Drawn0.refl _ | apply Drawn0.step)⟩
           rw [if_pos c26] at H
           have c26b0 : decide (4294967296 ≤ x18_2) = true := decide_eq_true c26
           clear c26
           (first | rw [c26b0] | (simp only [i64_w, i32_w]; rw [c26b0]) | skip)
           have H' := Aside0.mk H
           clear H
           go_wp2
           repeat (go_quiet (fail); try go_wp2)
           go_meet
           case rel => exact ⟨_, (true), (by first | rfl | (simp; done) | (simp [*]; done)), H', ⟨by have := HJ18.out; have := HK2.out; first | omega | exact Nat.le_refl _⟩, by repeat (first | exact Drawn0.refl _ | apply Drawn0.step)⟩
          case rest =>
           clear HC25
           try clear c1
           try clear c2
           try clear p2
           try clear c4
           try clear c4b0
           try clear c4b1
           try clear c5
           try clear c5b0
           try clear c6
           try clear c6b0
           try clear c6b1
           try clear c9
           try clear c9b0
           try clear c9b1
           try clear c11
           try clear c11b0
           try clear c14
           try clear c14b0
           try clear c14b1
           try clear c16
           try clear c16b0
           try clear c18
           try clear c18b0
           try clear c18b1
           try clear c19
           try clear c21
           try clear c21b0
           try clear c22
           try clear c23
           try clear c23b0
           try clear c24
           try clear c24b0
           try clear c24b1
           try clear c26
           try clear c26b0
           try clear p2
           obtain ⟨kq, x113_24, rfl, HA, HJ24, ⟨mc24, rfl⟩⟩ := hcut
           cases kq with
           | zero => exact absurd HA.out (by simp [bits_Div64.j4])
           | succ kj24 =>
            have H := HA.out
            clear HA
            simp only [bits_Div64.j4] at H
            by_cases c27 : x113_24 = true
            ·
             subst c27
             rw [if_pos rfl] at H
             by_cases c28 : (IntKind.u64.wrap (x16_2 + ((ji10) / 4294967296))) ≥ 4294967296
             rotate_left
             ·
              rw [if_neg c28] at H
              have c28b0 : decide (4294967296 ≤ (IntKind.u64.wrap (x16_2 + ((ji10) / 4294967296)))) = false := decide_eq_false c28
              clear c28
              have H' := Aside0.mk H
              clear H
              go_wp2
              repeat (go_quiet (fail); try go_wp2)
              go_roundg kj24
              case measure => have := HJ18.out; have := HK2.out; have := HJ24.out; omega
              case rel => exact ⟨(IntKind.u64.wrap (x16_2 + ((ji10) / 4294967296))), (IntKind.u64.wrap (x18_2 - 1)), (by first | rfl | (simp; done) | (simp only [← hji10] <;> (first | rfl | simp)) | (simp [*]; done)), (by first | rfl | (simp; done) | (simp [*]; done)), H', ⟨by have := HJ18.out; have := HK2.out; have := HJ24.out; omega⟩, by repeat (first | exact Drawn0.refl _ | apply Drawn0.step)⟩
             rw [if_pos c28] at H
             have c28b0 : decide (4294967296 ≤ (IntKind.u64.wrap (x16_2 + ((ji10) / 4294967296)))) = true := decide_eq_true c28
             clear c28
             by_cases c29 : 0 ≤ ji8
             rotate_left
             ·
              rw [if_neg c29] at H
              exact absurd H (by simp)
             rw [if_pos c29] at H
             have c29b0 := eq_true c29
             have c29b1 : decide (0 ≤ ji8) = true := decide_eq_true c29
             clear c29
             obtain ⟨ji30, hji30⟩ : ∃ j_ : Int, (shr .u64 (IntKind.u64.wrap ((IntKind.u64.wrap ((IntKind.u64.wrap ((IntKind.u64.wrap ((IntKind.u64.wrap ((IntKind.u64.wrap ((Go.bits .or .u64 (ji12) (ji15)) * 4294967296)) + ((ji17) / 4294967296))) - (IntKind.u64.wrap (x15_18 * ji10)))) * 4294967296)) + (Go.bits .and .u64 (ji17) 4294967295))) - (IntKind.u64.wrap ((IntKind.u64.wrap (x18_2 - 1)) * ji10)))) ji8) = j_ := ⟨_, rfl⟩
             replace H : (some (IntKind.u64.wrap ((IntKind.u64.wrap (x15_18 * 4294967296)) + (IntKind.u64.wrap (x18_2 - 1))), ji30)) = some (r1, r2) := by first | (rw [hji30] at H; exact H) | (simp only [hji30] at H ⊢; exact H)
             have hji30_ : ((IntKind.u64.wrap ((IntKind.u64.wrap ((IntKind.u64.wrap ((IntKind.u64.wrap ((IntKind.u64.wrap ((IntKind.u64.wrap ((Go.bits .or .u64 (ji12) (ji15)) * 4294967296)) + ((ji17) / 4294967296))) - (IntKind.u64.wrap (x15_18 * ji10)))) * 4294967296)) + (Go.bits .and .u64 (ji17) 4294967295))) - (IntKind.u64.wrap ((IntKind.u64.wrap (x18_2 - 1)) * ji10)))) / 2 ^ min ji8.toNat 64) = ji30 := hji30
             have hji30z : ji8 ≤ 64 → ((IntKind.u64.wrap ((IntKind.u64.wrap ((IntKind.u64.wrap ((IntKind.u64.wrap ((IntKind.u64.wrap ((IntKind.u64.wrap ((Go.bits .or .u64 (ji12) (ji15)) * 4294967296)) + ((ji17) / 4294967296))) - (IntKind.u64.wrap (x15_18 * ji10)))) * 4294967296)) + (Go.bits .and .u64 (ji17) 4294967295))) - (IntKind.u64.wrap ((IntKind.u64.wrap (x18_2 - 1)) * ji10)))) / 2 ^ ji8.toNat) = ji30 := shr_small hji30
             simp only [Option.some.injEq, Prod.mk.injEq] at H
             obtain ⟨rfl, rfl⟩ := H
             go_wp2
             repeat (go_quiet (fail); try go_wp2)
             go_ret2
             exact ⟨by first | rfl | (simp; done) | (simp only [← hji8, ← hji10, ← hji12, ← hji13, ← hji15, ← hji17, ← hji30] <;> (first | rfl | simp)) | (simp [*]; done), by repeat (first | exact Drawn0.refl _ | apply Drawn0.step)⟩
            ·
             replace c27 := Bool.eq_false_iff.mpr c27
             subst c27
             rw [if_neg (show ¬ (false = true) by decide)] at H
             by_cases c31 : 0 ≤ ji8
             rotate_left
             ·
              rw [if_neg c31] at H
              exact absurd H (by simp)
             rw [if_pos c31] at H
             have c31b0 := eq_true c31
             have c31b1 : decide (0 ≤ ji8) = true := decide_eq_true c31
             clear c31
             obtain ⟨ji32, hji32⟩ : ∃ j_ : Int, (shr .u64 (IntKind.u64.wrap ((IntKind.u64.wrap ((IntKind.u64.wrap ((IntKind.u64.wrap ((IntKind.u64.wrap ((IntKind.u64.wrap ((Go.bits .or .u64 (ji12) (ji15)) * 4294967296)) + ((ji17) / 4294967296))) - (IntKind.u64.wrap (x15_18 * ji10)))) * 4294967296)) + (Go.bits .and .u64 (ji17) 4294967295))) - (IntKind.u64.wrap (x18_2 * ji10)))) ji8) = j_ := ⟨_, rfl⟩
             replace H : (some (IntKind.u64.wrap ((IntKind.u64.wrap (x15_18 * 4294967296)) + x18_2), ji32)) = some (r1, r2) := by first | (rw [hji32] at H; exact H) | (simp only [hji32] at H ⊢; exact H)
             have hji32_ : ((IntKind.u64.wrap ((IntKind.u64.wrap ((IntKind.u64.wrap ((IntKind.u64.wrap ((IntKind.u64.wrap ((IntKind.u64.wrap ((Go.bits .or .u64 (ji12) (ji15)) * 4294967296)) + ((ji17) / 4294967296))) - (IntKind.u64.wrap (x15_18 * ji10)))) * 4294967296)) + (Go.bits .and .u64 (ji17) 4294967295))) - (IntKind.u64.wrap (x18_2 * ji10)))) / 2 ^ min ji8.toNat 64) = ji32 := hji32
             have hji32z : ji8 ≤ 64 → ((IntKind.u64.wrap ((IntKind.u64.wrap ((IntKind.u64.wrap ((IntKind.u64.wrap ((IntKind.u64.wrap ((IntKind.u64.wrap ((Go.bits .or .u64 (ji12) (ji15)) * 4294967296)) + ((ji17) / 4294967296))) - (IntKind.u64.wrap (x15_18 * ji10)))) * 4294967296)) + (Go.bits .and .u64 (ji17) 4294967295))) - (IntKind.u64.wrap (x18_2 * ji10)))) / 2 ^ ji8.toNat) = ji32 := shr_small hji32
             simp only [Option.some.injEq, Prod.mk.injEq] at H
             obtain ⟨rfl, rfl⟩ := H
             go_wp2
             repeat (go_quiet (fail); try go_wp2)
             go_ret2
             exact ⟨by first | rfl | (simp; done) | (simp only [← hji8, ← hji10, ← hji12, ← hji13, ← hji15, ← hji17, ← hji32] <;> (first | rfl | simp)) | (simp [*]; done), by repeat (first | exact Drawn0.refl _ | apply Drawn0.step)⟩
/-! ### wide_Wide_Div: function 50 -/
def wide_Wide_Div.f (k : Nat) (a0_0 : Int) (a0_1 : Int) (a1 : Int) : Option (Int × Int × Bool) := if a0_0 ≥ a1 then (some (0, 0, false)) else ((bits_Div64.f k a0_0 a0_1 a1).bind fun bt254 => (some (bt254.1, bt254.2, true)))
theorem wide_Wide_Div.mono : ∀ a0 a1 a2 k, LeO (wide_Wide_Div.f k a0 a1 a2) (wide_Wide_Div.f (k + 1) a0 a1 a2) := by
 intro a0 a1 a2 k
 unfold wide_Wide_Div.f
 repeat' with_reducible first | apply bits_Div64.mono | exact LeO.refl _ | exact LeO.none _ | refine LeO.ite ?_ ?_ | refine LeO.bind ?_ (fun _ => ?_)
set_option maxHeartbeats 8000000 in
set_option maxRecDepth 100000 in
theorem wide_Wide_Div.calls (k : Nat) (a0_0 : Int) (a0_1 : Int) (a1 : Int) (r1 : Int) (r2 : Int) (r3 : Bool) (w : World) (h : wide_Wide_Div.f k a0_0 a0_1 a1 = some (r1, r2, r3)) :
  Calls Try.prog 50 #[.agg #[.int .u64 a0_0, .int .u64 a0_1], .int .u64 a1] w fun e w' => e = .returned (.tuple #[.int .u64 r1, .int .u64 r2, .bool r3]) ∧ Below w.heap.size w w' := by
 have hu67 := Try.underlying67
 have HB := Aside0.mk (Below.refl w.heap.size w)
 have H : (if a0_0 ≥ a1 then (some (0, 0, false)) else ((bits_Div64.f k a0_0 a0_1 a1).bind fun bt254 => (some (bt254.1, bt254.2, true)))) = some (r1, r2, r3) := h
 clear h
 by_cases c3 : a0_0 ≥ a1
 ·
  rw [if_pos c3] at H
  have c3b0 : decide (a1 ≤ a0_0) = true := decide_eq_true c3
  clear c3
  simp only [Option.some.injEq, Prod.mk.injEq] at H
  obtain ⟨rfl, rfl, rfl⟩ := H
  go_enter Try.func50, Try.ntmps50
  go_wp2_with (first | ((with_reducible refine gate_dst (N := 2) rfl ?_); refine gbox (N := 2) (cs := #[.int .u64 a0_0, .int .u64 a0_1]) (t := 67) ?_; intro gb253 hg w4 hbox hb; refine ax4 (below_step bel hb) hbox ((ge hg : w.heap.size ≤ gb253)) ((ge hg : w.heap.size ≤ gb253)) ?_; clear HB; intro HB BK253 GW253 GE253; clear hb hbox hg; have hcz5_0 := bc BK253 0 rfl; have hcz5_1 := bc BK253 1 rfl; have hfz5_0 := blk_frozen BK253.out 0; have hfz5_1 := blk_frozen BK253.out 1))
  go_ret3
  exact ⟨er, bes⟩
 ·
  rw [if_neg c3] at H
  have c3b0 : decide (a1 ≤ a0_0) = false := decide_eq_false c3
  clear c3
  obtain ⟨⟨t254, t255⟩, A60, H⟩ := Option.bind_eq_some_iff.mp H
  (try dsimp -simprocs only at H)
  have A6 := Aside0.mk A60
  clear A60
  simp only [Option.some.injEq, Prod.mk.injEq] at H
  obtain ⟨rfl, rfl, rfl⟩ := H
  go_enter Try.func50, Try.ntmps50
  go_wp2_with (first | ((with_reducible refine gate_dst (N := 2) rfl ?_); refine gbox (N := 2) (cs := #[.int .u64 a0_0, .int .u64 a0_1]) (t := 67) ?_; intro gb253 hg w7 hbox hb; refine ax4 (below_step bel hb) hbox ((ge hg : w.heap.size ≤ gb253)) ((ge hg : w.heap.size ≤ gb253)) ?_; clear HB; intro HB BK253 GW253 GE253; clear hb hbox hg; have hcz8_0 := bc BK253 0 rfl; have hcz8_1 := bc BK253 1 rfl; have hfz8_0 := blk_frozen BK253.out 0; have hfz8_1 := blk_frozen BK253.out 1) | ((with_reducible refine gate_callee (f := 59) rfl ?_); refine goesL_ (some 19) rfl rfl Try.func59 (by kernel_rfl) rfl #[.int .u64 a0_0, .int .u64 a0_1, .int .u64 a1] rfl ga ?_; (with_reducible refine (bits_Div64.calls k a0_0 a0_1 a1 t254 t255 _ A6.out).mono ?_); rintro e w' ⟨rfl, ⟨nd, rfl⟩⟩; refine ⟨_, rfl, ?_⟩))
  go_ret3
  exact ⟨er, bes⟩

end Go.Proofs.Ytnjobojkoaknpaa.F
