-- Written by a program of this seat's session (mkprint), out of the translation.
import Derived.Test.YtkkfghecmhmdpaaShort
import Derived.Test.YtkkfghecmhmdpaaFx0
import Derived.Test.YtkkfghecmhmdpaaFx1
import Derived.Test.YtkkfghecmhmdpaaFx2
import Derived.Test.YtkkfghecmhmdpaaFx4
import Derived.Test.YtkkfghecmhmdpaaFx5
import Derived.Test.YtkkfghecmhmdpaaFx6
namespace Go.Proofs.Ytkkfghecmhmdpaa.F
open Go.RowKit Go.Proofs.YtkkfghecmhmdpaaW.PrintWords Go.Proofs.YtkkfghecmhmdpaaW.PrintLast Go.Proofs.YtkkfghecmhmdpaaW.PrintMore
attribute [local go_sem] max2_int min2_int max_two min_two max_three min_three max_four min_four   -- for this text's walks alone
set_option linter.unusedVariables false
set_option linter.unusedSimpArgs false

attribute [local go_sem high] eqA58
/-! ### soft_Mul: function 31 -/
def soft_Mul.j0 : Nat → Int → Int → Bool → Int → Int → Bool → Option (Int × Int)
 | 0, _, _, _, _, _, _ => none
 | k + 1, x0, x1, x9, x10, x11, x36 => if x36 = true then (some (9221120237041090560, 16)) else (if x10 = 4 then ((word_Make.f x9 2047 0).bind fun t243 => (some (t243, 0))) else (if x11 = 4 then ((word_Make.f x9 2047 0).bind fun t244 => (some (t244, 0))) else ((word_Parts.f k x0).bind fun bt245 => ((word_Parts.f k x1).bind fun bt247 => ((wide_Mul.f bt245.1 bt247.1).bind fun bt249 => ((round_Round.f k x9 bt249.1 bt249.2 (wrap64 (bt245.2 + bt247.2)) false).bind fun bt251 => (some (bt251.1, bt251.2))))))))
def soft_Mul.f (k : Nat) (a0 : Int) (a1 : Int) : Option (Int × Int) := (soft_nan.f k (([a0, a1] : List Int))).bind fun bt236 => (if bt236.2.2 = true then (some (bt236.1, bt236.2.1)) else ((word_Neg.f a0).bind fun t239 => ((word_Neg.f a1).bind fun t240 => ((word_Kind.f k a0).bind fun t241 => ((word_Kind.f k a1).bind fun t242 => (if t241 = 4 then (if t242 = 1 then (soft_Mul.j0 k a0 a1 (t239 != t240) t241 t242 true) else (if t241 = 1 then (soft_Mul.j0 k a0 a1 (t239 != t240) t241 t242 (t242 == 4)) else (soft_Mul.j0 k a0 a1 (t239 != t240) t241 t242 false))) else (if t241 = 1 then (soft_Mul.j0 k a0 a1 (t239 != t240) t241 t242 (t242 == 4)) else (soft_Mul.j0 k a0 a1 (t239 != t240) t241 t242 false))))))))
theorem soft_Mul.mono_l : ∀ k, (∀ y0 y1 y2 y3 y4 y5, LeO (soft_Mul.j0 k y0 y1 y2 y3 y4 y5) (soft_Mul.j0 (k + 1) y0 y1 y2 y3 y4 y5))
 | 0 => fun _ _ _ _ _ _ r h => by simp [soft_Mul.j0] at h
 | k + 1 => by
  have ih0 := soft_Mul.mono_l k
  ·
   intro y0 y1 y2 y3 y4 y5
   unfold soft_Mul.j0
   repeat' with_reducible first | apply ih0 | apply round_Round.mono | apply soft_nan.mono | apply word_Kind.mono | apply word_Parts.mono | exact LeO.refl _ | exact LeO.none _ | refine LeO.ite ?_ ?_ | refine LeO.bind ?_ (fun _ => ?_)
theorem soft_Mul.mono : ∀ a0 a1 k, LeO (soft_Mul.f k a0 a1) (soft_Mul.f (k + 1) a0 a1) := by
 intro a0 a1 k
 have ih0 := soft_Mul.mono_l k
 unfold soft_Mul.f
 repeat' with_reducible first | apply ih0 | apply round_Round.mono | apply soft_nan.mono | apply word_Kind.mono | apply word_Parts.mono | exact LeO.refl _ | exact LeO.none _ | refine LeO.ite ?_ ?_ | refine LeO.bind ?_ (fun _ => ?_)
set_option maxHeartbeats 8000000 in
set_option maxRecDepth 100000 in
theorem soft_Mul.calls (k : Nat) (a0 : Int) (a1 : Int) (r1 : Int) (r2 : Int) (w : World) (h : soft_Mul.f k a0 a1 = some (r1, r2)) :
  Calls Try.prog 31 #[.int .u64 a0, .int .u64 a1] w fun e w' => e = .returned (.tuple #[.int .u64 r1, .int .u8 r2]) ∧ Below w.heap.size w w' := by
 have HB := Aside0.mk (Below.refl w.heap.size w)
 have H : ((soft_nan.f k (([a0, a1] : List Int))).bind fun bt236 => (if bt236.2.2 = true then (some (bt236.1, bt236.2.1)) else ((word_Neg.f a0).bind fun t239 => ((word_Neg.f a1).bind fun t240 => ((word_Kind.f k a0).bind fun t241 => ((word_Kind.f k a1).bind fun t242 => (if t241 = 4 then (if t242 = 1 then (soft_Mul.j0 k a0 a1 (t239 != t240) t241 t242 true) else (if t241 = 1 then (soft_Mul.j0 k a0 a1 (t239 != t240) t241 t242 (t242 == 4)) else (soft_Mul.j0 k a0 a1 (t239 != t240) t241 t242 false))) else (if t241 = 1 then (soft_Mul.j0 k a0 a1 (t239 != t240) t241 t242 (t242 == 4)) else (soft_Mul.j0 k a0 a1 (t239 != t240) t241 t242 false))))))))) = some (r1, r2) := h
 clear h
 obtain ⟨y233, hy233⟩ : ∃ y_ : List Int, y_ = (([a0, a1] : List Int)) := ⟨_, rfl⟩
 replace H : ((soft_nan.f k y233).bind fun bt236 => (if bt236.2.2 = true then (some (bt236.1, bt236.2.1)) else ((word_Neg.f a0).bind fun t239 => ((word_Neg.f a1).bind fun t240 => ((word_Kind.f k a0).bind fun t241 => ((word_Kind.f k a1).bind fun t242 => (if t241 = 4 then (if t242 = 1 then (soft_Mul.j0 k a0 a1 (t239 != t240) t241 t242 true) else (if t241 = 1 then (soft_Mul.j0 k a0 a1 (t239 != t240) t241 t242 (t242 == 4)) else (soft_Mul.j0 k a0 a1 (t239 != t240) t241 t242 false))) else (if t241 = 1 then (soft_Mul.j0 k a0 a1 (t239 != t240) t241 t242 (t242 == 4)) else (soft_Mul.j0 k a0 a1 (t239 != t240) t241 t242 false))))))))) = some (r1, r2) := by first | (rw [hy233]; with_reducible exact H) | (have H2_ := (Option.bind_some _ _).symm.trans H; rw [hy233]; with_reducible exact H2_) | (have H2_ := (Option.bind_some _ _).symm.trans H; with_reducible exact H2_) | with_reducible exact H | (rw [hy233]; exact H) | exact H
 have Ny233 := Aside0.mk hy233
 clear hy233
 obtain ⟨⟨t236, t237, t238⟩, A30, H⟩ := Option.bind_eq_some_iff.mp H
 (try dsimp -simprocs only at H)
 have A3 := Aside0.mk A30
 clear A30
 by_cases c4 : t238 = true
 ·
  subst c4
  rw [if_pos rfl] at H
  simp only [Option.some.injEq, Prod.mk.injEq] at H
  obtain ⟨rfl, rfl⟩ := H
  go_enter Try.func31, Try.ntmps31
  go_wp2_with (first | ((with_reducible refine gate_dst (N := 19) rfl ?_); refine Kd.R_lit (Kd.int .u64) _ 28 ?hg (N := 19) ?hd (xs := ([a0, a1] : List Int)) (inner := [.int .u64 a0, .int .u64 a1]) (ok := fun _ => True) (okp := fun _ => True) ?hr ?hp (fun _ hk => hk) trivial (Below.refl _ _) (Nat.le_refl _) (by simp) ?_; (case hd => rfl); (case hg => rfl); (case hr => first | (go_simp; done) | (go_simp; rfl)); (case hp => exact (Reps.one (show Kd.M (Kd.int .u64) _ _ _ a0 [.int .u64 a0] from rfl) (Reps.one (show Kd.M (Kd.int .u64) _ _ _ a1 [.int .u64 a1] from rfl) (Reps.none _ _)))); intro v234 w5 ho6 hb hg_ hnew_; clear hg_ hnew_; (first | rw [← Ny233.out] at ho6 | (simp only [Int.reduceToNat] at ho6; rw [← Ny233.out] at ho6)); refine ax2 (Kd.R_lower ho6 (below_size bel)) (below_step bel hb) ?_; clear HB; intro HO235 HB; clear hb ho6; obtain ⟨Ao7, co7, eo7⟩ := Kd.R_slice HO235.out; subst eo7) | ((with_reducible refine gate_callee (f := 44) rfl ?_); refine goesL_ (some 20) rfl rfl Try.func44 (by kernel_rfl) rfl #[.slice Ao7 y233.length co7] rfl ga ?_; (with_reducible refine (soft_nan.calls k _ _ y233 t236 t237 true _ ?side1 ?side2 A3.out).mono ?_); (case side1 => exact ks HO235); (case side2 => exact (Kd.R_reads' HO235.out).2.1); rintro e w' ⟨rfl, ⟨nd, rfl⟩⟩; refine ⟨_, rfl, ?_⟩))
  go_ret2
  exact ⟨er, bel⟩
 ·
  replace c4 := Bool.eq_false_iff.mpr c4
  subst c4
  rw [if_neg (show ¬ (false = true) by decide)] at H
  obtain ⟨t239, A80, H⟩ := Option.bind_eq_some_iff.mp H
  (try dsimp -simprocs only at H)
  have A8 := Aside0.mk A80
  clear A80
  obtain ⟨t240, A90, H⟩ := Option.bind_eq_some_iff.mp H
  (try dsimp -simprocs only at H)
  have A9 := Aside0.mk A90
  clear A90
  obtain ⟨t241, A100, H⟩ := Option.bind_eq_some_iff.mp H
  (try dsimp -simprocs only at H)
  have A10 := Aside0.mk A100
  clear A100
  obtain ⟨t242, A110, H⟩ := Option.bind_eq_some_iff.mp H
  (try dsimp -simprocs only at H)
  have A11 := Aside0.mk A110
  clear A110
  have HC12 := Aside0.mk H
  clear H
  go_enter Try.func31, Try.ntmps31
  go_upto_region 6 with (first | ((with_reducible refine gate_dst (N := 19) rfl ?_); refine Kd.R_lit (Kd.int .u64) _ 28 ?hg (N := 19) ?hd (xs := ([a0, a1] : List Int)) (inner := [.int .u64 a0, .int .u64 a1]) (ok := fun _ => True) (okp := fun _ => True) ?hr ?hp (fun _ hk => hk) trivial (Below.refl _ _) (Nat.le_refl _) (by simp) ?_; (case hd => rfl); (case hg => rfl); (case hr => first | (go_simp; done) | (go_simp; rfl)); (case hp => exact (Reps.one (show Kd.M (Kd.int .u64) _ _ _ a0 [.int .u64 a0] from rfl) (Reps.one (show Kd.M (Kd.int .u64) _ _ _ a1 [.int .u64 a1] from rfl) (Reps.none _ _)))); intro v234 w13 ho14 hb hg_ hnew_; clear hg_ hnew_; (first | rw [← Ny233.out] at ho14 | (simp only [Int.reduceToNat] at ho14; rw [← Ny233.out] at ho14)); refine ax2 (Kd.R_lower ho14 (below_size bel)) (below_step bel hb) ?_; clear HB; intro HO235 HB; clear hb ho14; obtain ⟨Ao15, co15, eo15⟩ := Kd.R_slice HO235.out; subst eo15) | ((with_reducible refine gate_callee (f := 44) rfl ?_); refine goesL_ (some 20) rfl rfl Try.func44 (by kernel_rfl) rfl #[.slice Ao15 y233.length co15] rfl ga ?_; (with_reducible refine (soft_nan.calls k _ _ y233 t236 t237 false _ ?side1 ?side2 A3.out).mono ?_); (case side1 => exact ks HO235); (case side2 => exact (Kd.R_reads' HO235.out).2.1); rintro e w' ⟨rfl, ⟨nd, rfl⟩⟩; refine ⟨_, rfl, ?_⟩) | ((with_reducible refine gate_callee (f := 28) rfl ?_); refine goesL_ (some 28) rfl rfl Try.func28 (by kernel_rfl) rfl #[.int .u64 a0] rfl ga ?_; (with_reducible refine (word_Neg.calls a0 t239 _ A8.out).mono ?_); rintro e w' ⟨rfl, ⟨nd, rfl⟩⟩; refine ⟨_, rfl, ?_⟩) | ((with_reducible refine gate_callee (f := 28) rfl ?_); refine goesL_ (some 30) rfl rfl Try.func28 (by kernel_rfl) rfl #[.int .u64 a1] rfl ga ?_; (with_reducible refine (word_Neg.calls a1 t240 _ A9.out).mono ?_); rintro e w' ⟨rfl, ⟨nd, rfl⟩⟩; refine ⟨_, rfl, ?_⟩) | ((with_reducible refine gate_callee (f := 25) rfl ?_); refine goesL_ (some 33) rfl rfl Try.func25 (by kernel_rfl) rfl #[.int .u64 a0] rfl ga ?_; (with_reducible refine (word_Kind.calls k a0 t241 _ A10.out).mono ?_); rintro e w' ⟨rfl, ⟨nd, rfl⟩⟩; refine ⟨_, rfl, ?_⟩) | ((with_reducible refine gate_callee (f := 25) rfl ?_); refine goesL_ (some 35) rfl rfl Try.func25 (by kernel_rfl) rfl #[.int .u64 a1] rfl ga ?_; (with_reducible refine (word_Kind.calls k a1 t242 _ A11.out).mono ?_); rintro e w' ⟨rfl, ⟨nd, rfl⟩⟩; refine ⟨_, rfl, ?_⟩))
  (try simp only [Act.put, sa0, sa1, sa2])
  go_cut [9, 36] (fun v9 v36 wc => ∃ (kq : Nat) (x9_11 : Bool) (x36_11 : Bool), v9 = .bool x9_11 ∧ v36 = .bool x36_11 ∧ Aside0 (soft_Mul.j0 kq a0 a1 x9_11 t241 t242 x36_11 = some (r1, r2)) ∧ Aside0 (kq ≤ k) ∧ Aside0 (Below w.heap.size w wc))
  case first =>
   have H := HC12.out
   clear HC12
   by_cases c16 : t241 = 4
   ·
    rw [if_pos c16] at H
    have c16b0 : (t241 == 4) = true := beq_iff_eq.mpr c16
    have c16b1 : (t241 != 4) = false := bne_eq_false_iff_eq.mpr c16
    clear c16
    (first | rw [c16b0] | (simp only [i64_w, i32_w]; rw [c16b0]) | skip)
    by_cases c17 : t242 = 1
    ·
     rw [if_pos c17] at H
     have c17b0 : (t242 == 1) = true := beq_iff_eq.mpr c17
     have c17b1 : (t242 != 1) = false := bne_eq_false_iff_eq.mpr c17
     clear c17
     have H' := Aside0.mk H
     clear H
     go_wp2
     go_meet
     case rel => exact ⟨_, ((t239 != t240)), (true), (by first | rfl | (simp; done) | (simp [*]; done)), (by first | rfl | (simp; done) | (simp [*]; done)), H', ⟨by first | omega | exact Nat.le_refl _⟩, ⟨bel⟩⟩
    ·
     rw [if_neg c17] at H
     have c17b0 : (t242 == 1) = false := beq_eq_false_iff_ne.mpr c17
     have c17b1 : (t242 != 1) = true := bne_iff_ne.mpr c17
     by_cases c18 : t241 = 1
     rotate_left
     ·
      rw [if_neg c18] at H
      have c18b0 : (t241 == 1) = false := beq_eq_false_iff_ne.mpr c18
      have c18b1 : (t241 != 1) = true := bne_iff_ne.mpr c18
      have H' := Aside0.mk H
      clear H
      go_wp2
      go_meet
      case rel => exact ⟨_, ((t239 != t240)), (false), (by first | rfl | (simp; done) | (simp [*]; done)), (by first | rfl | (simp; done) | (simp [*]; done)), H', ⟨by first | omega | exact Nat.le_refl _⟩, ⟨bel⟩⟩
     rw [if_pos c18] at H
     have c18b0 : (t241 == 1) = true := beq_iff_eq.mpr c18
     have c18b1 : (t241 != 1) = false := bne_eq_false_iff_eq.mpr c18
     clear c18
     have H' := Aside0.mk H
     clear H
     go_wp2
     go_meet
     case rel => exact ⟨_, ((t239 != t240)), ((t242 == 4)), (by first | rfl | (simp; done) | (simp [*]; done)), (by first | rfl | (simp; done) | (simp [*]; done)), H', ⟨by first | omega | exact Nat.le_refl _⟩, ⟨bel⟩⟩
   ·
    rw [if_neg c16] at H
    have c16b0 : (t241 == 4) = false := beq_eq_false_iff_ne.mpr c16
    have c16b1 : (t241 != 4) = true := bne_iff_ne.mpr c16
    (first | rw [c16b0] | (simp only [i64_w, i32_w]; rw [c16b0]) | skip)
    by_cases c19 : t241 = 1
    rotate_left
    ·
     rw [if_neg c19] at H
     have c19b0 : (t241 == 1) = false := beq_eq_false_iff_ne.mpr c19
     have c19b1 : (t241 != 1) = true := bne_iff_ne.mpr c19
     have H' := Aside0.mk H
     clear H
     go_wp2
     go_meet
     case rel => exact ⟨_, ((t239 != t240)), (false), (by first | rfl | (simp; done) | (simp [*]; done)), (by first | rfl | (simp; done) | (simp [*]; done)), H', ⟨by first | omega | exact Nat.le_refl _⟩, ⟨bel⟩⟩
    rw [if_pos c19] at H
    have c19b0 : (t241 == 1) = true := beq_iff_eq.mpr c19
    have c19b1 : (t241 != 1) = false := bne_eq_false_iff_eq.mpr c19
    clear c19
    have H' := Aside0.mk H
    clear H
    go_wp2
    go_meet
    case rel => exact ⟨_, ((t239 != t240)), ((t242 == 4)), (by first | rfl | (simp; done) | (simp [*]; done)), (by first | rfl | (simp; done) | (simp [*]; done)), H', ⟨by first | omega | exact Nat.le_refl _⟩, ⟨bel⟩⟩
  case rest =>
   clear HC12
   try clear c1
   try clear c2
   try clear p2
   try clear c3
   try clear c4
   try clear c16
   try clear c16b0
   try clear c16b1
   try clear c17
   try clear c17b0
   try clear c17b1
   try clear c18
   try clear c18b0
   try clear c18b1
   try clear c19
   try clear c19b0
   try clear c19b1
   obtain ⟨kq, x9_11, x36_11, rfl, rfl, HA, HJ11, HB⟩ := hcut
   cases kq with
   | zero => exact absurd HA.out (by simp [soft_Mul.j0])
   | succ kj11 =>
    have H := HA.out
    clear HA
    simp only [soft_Mul.j0] at H
    by_cases c20 : x36_11 = true
    ·
     subst c20
     rw [if_pos rfl] at H
     simp only [Option.some.injEq, Prod.mk.injEq] at H
     obtain ⟨rfl, rfl⟩ := H
     go_wp2
     go_ret2
     exact ⟨er, bel⟩
    ·
     replace c20 := Bool.eq_false_iff.mpr c20
     subst c20
     rw [if_neg (show ¬ (false = true) by decide)] at H
     by_cases c21 : t241 = 4
     ·
      rw [if_pos c21] at H
      have c21b0 : (t241 == 4) = true := beq_iff_eq.mpr c21
      have c21b1 : (t241 != 4) = false := bne_eq_false_iff_eq.mpr c21
      clear c21
      obtain ⟨t243, A220, H⟩ := Option.bind_eq_some_iff.mp H
      (try dsimp -simprocs only at H)
      have A22 := Aside0.mk A220
      clear A220
      simp only [Option.some.injEq, Prod.mk.injEq] at H
      obtain ⟨rfl, rfl⟩ := H
      go_wp2_with (first | ((with_reducible refine gate_callee (f := 39) rfl ?_); refine goesL_ (some 59) rfl rfl Try.func39 (by kernel_rfl) rfl #[.bool x9_11, .int .i64 2047, .int .u64 0] rfl ga ?_; (with_reducible refine (word_Make.calls x9_11 2047 0 t243 _ A22.out).mono ?_); rintro e w' ⟨rfl, ⟨nd, rfl⟩⟩; refine ⟨_, rfl, ?_⟩))
      go_ret2
      exact ⟨er, bel⟩
     ·
      rw [if_neg c21] at H
      have c21b0 : (t241 == 4) = false := beq_eq_false_iff_ne.mpr c21
      have c21b1 : (t241 != 4) = true := bne_iff_ne.mpr c21
      by_cases c23 : t242 = 4
      ·
       rw [if_pos c23] at H
       have c23b0 : (t242 == 4) = true := beq_iff_eq.mpr c23
       have c23b1 : (t242 != 4) = false := bne_eq_false_iff_eq.mpr c23
       clear c23
       obtain ⟨t244, A240, H⟩ := Option.bind_eq_some_iff.mp H
       (try dsimp -simprocs only at H)
       have A24 := Aside0.mk A240
       clear A240
       simp only [Option.some.injEq, Prod.mk.injEq] at H
       obtain ⟨rfl, rfl⟩ := H
       go_wp2_with (first | ((with_reducible refine gate_callee (f := 39) rfl ?_); refine goesL_ (some 59) rfl rfl Try.func39 (by kernel_rfl) rfl #[.bool x9_11, .int .i64 2047, .int .u64 0] rfl ga ?_; (with_reducible refine (word_Make.calls x9_11 2047 0 t244 _ A24.out).mono ?_); rintro e w' ⟨rfl, ⟨nd, rfl⟩⟩; refine ⟨_, rfl, ?_⟩))
       go_ret2
       exact ⟨er, bel⟩
      ·
       rw [if_neg c23] at H
       have c23b0 : (t242 == 4) = false := beq_eq_false_iff_ne.mpr c23
       have c23b1 : (t242 != 4) = true := bne_iff_ne.mpr c23
       obtain ⟨⟨t245, t246⟩, A250, H⟩ := Option.bind_eq_some_iff.mp H
       (try dsimp -simprocs only at H)
       have A25 := Aside0.mk A250
       clear A250
       obtain ⟨⟨t247, t248⟩, A260, H⟩ := Option.bind_eq_some_iff.mp H
       (try dsimp -simprocs only at H)
       have A26 := Aside0.mk A260
       clear A260
       obtain ⟨⟨t249, t250⟩, A270, H⟩ := Option.bind_eq_some_iff.mp H
       (try dsimp -simprocs only at H)
       have A27 := Aside0.mk A270
       clear A270
       obtain ⟨⟨t251, t252⟩, A280, H⟩ := Option.bind_eq_some_iff.mp H
       (try dsimp -simprocs only at H)
       have A28 := Aside0.mk A280
       clear A280
       simp only [Option.some.injEq, Prod.mk.injEq] at H
       obtain ⟨rfl, rfl⟩ := H
       go_wp2_with (first | ((with_reducible refine gate_callee (f := 24) rfl ?_); refine goesL_ (some 62) rfl rfl Try.func24 (by kernel_rfl) rfl #[.int .u64 a0] rfl ga ?_; (with_reducible refine (word_Parts.calls kj11 a0 t245 t246 _ A25.out).mono ?_); rintro e w' ⟨rfl, ⟨nd, rfl⟩⟩; refine ⟨_, rfl, ?_⟩) | ((with_reducible refine gate_callee (f := 24) rfl ?_); refine goesL_ (some 67) rfl rfl Try.func24 (by kernel_rfl) rfl #[.int .u64 a1] rfl ga ?_; (with_reducible refine (word_Parts.calls kj11 a1 t247 t248 _ A26.out).mono ?_); rintro e w' ⟨rfl, ⟨nd, rfl⟩⟩; refine ⟨_, rfl, ?_⟩) | ((with_reducible refine gate_callee (f := 46) rfl ?_); refine goesL_ (some 73) rfl rfl Try.func46 (by kernel_rfl) rfl #[.int .u64 t245, .int .u64 t247] rfl ga ?_; (with_reducible refine (wide_Mul.calls t245 t247 t249 t250 _ A27.out).mono ?_); rintro e w29 ⟨rfl, hb⟩; refine ⟨_, rfl, ?_⟩; refine ax1 (below_step bel hb) ?_; clear HB; intro HB; (try clear hb)) | ((with_reducible refine gate_callee (f := 27) rfl ?_); refine goesL_ (some 77) rfl rfl Try.func27 (by kernel_rfl) rfl #[.bool x9_11, .agg #[.int .u64 t249, .int .u64 t250], .int .i64 (wrap64 (t246 + t248)), .bool false] rfl ga ?_; (with_reducible refine (round_Round.calls kj11 x9_11 t249 t250 (wrap64 (t246 + t248)) false t251 t252 _ A28.out).mono ?_); rintro e w30 ⟨rfl, hb⟩; refine ⟨_, rfl, ?_⟩; refine ax1 (below_step bel hb) ?_; clear HB; intro HB; (try clear hb)))
       go_ret2
       exact ⟨er, bel⟩

/-! ### soft_Calc_Mul: function 12 -/
def soft_Calc_Mul.f (k : Nat) (s0_0 : Int) (a1 : Int) (a2 : Int) : Option (Int × Int) := (soft_Mul.f k a1 a2).bind fun bt253 => ((soft_Calc_note.f s0_0 bt253.1 bt253.2).bind fun bt255 => (some (bt255.1, bt255.2)))
theorem soft_Calc_Mul.mono : ∀ a0 a1 a2 k, LeO (soft_Calc_Mul.f k a0 a1 a2) (soft_Calc_Mul.f (k + 1) a0 a1 a2) := by
 intro a0 a1 a2 k
 unfold soft_Calc_Mul.f
 repeat' with_reducible first | apply soft_Mul.mono | exact LeO.refl _ | exact LeO.none _ | refine LeO.ite ?_ ?_ | refine LeO.bind ?_ (fun _ => ?_)
set_option maxHeartbeats 8000000 in
set_option maxRecDepth 100000 in
theorem soft_Calc_Mul.calls (k : Nat) (g : Nat) (s0_0 : Int) (a1 : Int) (a2 : Int) (r1 : Int) (r2 : Int) (w0 w : World) (hI : IsS27 w0 w g s0_0) (hB : Below w0.heap.size w0 w) (h : soft_Calc_Mul.f k s0_0 a1 a2 = some (r1, r2)) :
  Calls Try.prog 12 #[.pointer (some ⟨g, 0, none⟩), .int .u64 a1, .int .u64 a2] w fun e w' => e = .returned (.int .u64 r1) ∧ IsS27 w0 w' g r2 ∧ Below w0.heap.size w0 w' ∧ KeepBut w w' g none := by
 have HI0 := Aside0.mk hI
 have HK := Aside0.mk (KeepBut.refl w g none)
 have HL := Aside0.mk hB.size
 clear hI
 have HW0 := Aside0.mk hB.size
 have HB := Aside0.mk hB
 clear hB
 have H : ((soft_Mul.f k a1 a2).bind fun bt253 => ((soft_Calc_note.f s0_0 bt253.1 bt253.2).bind fun bt255 => (some (bt255.1, bt255.2)))) = some (r1, r2) := h
 clear h
 obtain ⟨⟨t253, t254⟩, A40, H⟩ := Option.bind_eq_some_iff.mp H
 (try dsimp -simprocs only at H)
 have A4 := Aside0.mk A40
 clear A40
 obtain ⟨⟨t255, t256⟩, A50, H⟩ := Option.bind_eq_some_iff.mp H
 (try dsimp -simprocs only at H)
 have A5 := Aside0.mk A50
 clear A50
 simp only [Option.some.injEq, Prod.mk.injEq] at H
 obtain ⟨rfl, rfl⟩ := H
 go_enter Try.func12, Try.ntmps12
 go_wp2_with (first | ((with_reducible refine gate_callee (f := 31) rfl ?_); refine goesL_ (some 10) rfl rfl Try.func31 (by kernel_rfl) rfl #[.int .u64 a1, .int .u64 a2] rfl ga ?_; (with_reducible refine (soft_Mul.calls k a1 a2 t253 t254 _ A4.out).mono ?_); rintro e w6 ⟨rfl, hb⟩; refine ⟨_, rfl, ?_⟩; refine ax3 (IsS27.below (by repeat (first | (with_reducible first | exact HI0.out | apply IsS27.alloc | apply IsS27.drewN | apply IsS27.drew | apply IsS27.set_0) | exact HI0.out)) hb) (KeepBut.trans (by repeat (first | (with_reducible first | exact HK.out | apply KeepBut.set_ | apply keep_drewN | apply keep_drew | apply keep_alloc) | exact HK.out)) (KeepBut.of_below hb g none) (.inl rfl)) (below_step (by repeat (first | (with_reducible first | exact HB.out | apply below_alloc | apply pw_below_drewN | apply below_drew1 | refine below_set ?_ (IsS27.ge HI0.out)) | exact HB.out)) hb) ?_; clear HI0; clear HK; clear HB; intro HI0 HK HB; (try clear hb)) | ((with_reducible refine gate_callee (f := 29) rfl ?_); refine goesL_ (some 13) rfl rfl Try.func29 (by kernel_rfl) rfl #[.pointer (some ⟨g, 0, none⟩), .int .u64 t253, .int .u8 t254] rfl ga ?_; (with_reducible refine (soft_Calc_note.calls g s0_0 t253 t254 t255 t256 w0 _ ?side1 ?side2 A5.out).mono ?_); (case side1 => repeat (first | (with_reducible first | exact HI0.out | apply IsS27.alloc | apply IsS27.drewN | apply IsS27.drew | apply IsS27.set_0) | exact HI0.out)); (case side2 => repeat (first | (with_reducible first | exact HB.out | apply below_alloc | apply pw_below_drewN | apply below_drew1 | refine below_set ?_ (IsS27.ge HI0.out)) | exact HB.out)); rintro e w7 ⟨rfl, hi, hb, hk⟩; refine ⟨_, rfl, ?_⟩; refine ax3 (KeepBut.trans (by repeat (first | (with_reducible first | exact HK.out | apply KeepBut.set_ | apply keep_drewN | apply keep_drew | apply keep_alloc) | exact HK.out)) hk (.inl rfl)) hb hi ?_; clear HK; clear HB; clear HI0; intro HK HB HI0; (try clear hb)))
 go_ret
 exact ⟨er, by repeat (first | (with_reducible first | exact HI0.out | apply IsS27.alloc | apply IsS27.drewN | apply IsS27.drew | apply IsS27.set_0) | exact HI0.out), by repeat (first | (with_reducible first | exact HB.out | apply below_alloc | apply pw_below_drewN | apply below_drew1 | refine below_set ?_ (IsS27.ge HI0.out)) | exact HB.out), by repeat (first | (with_reducible first | exact HK.out | apply KeepBut.set_ | apply keep_drewN | apply keep_drew | apply keep_alloc) | exact HK.out)⟩

/-! ### wide_Wide_Cmp: function 47 -/
def wide_Wide_Cmp.j0 : Nat → Bool → Int → Int → Int → Int → Option (Int)
 | 0, _, _, _, _, _ => none
 | k + 1, x5, x261000, x261001, x262000, x262001 => if x5 = true then (some (-1)) else (if (x261000 == x262000 && (x261001 == x262001)) = true then (some 0) else (some 1))
def wide_Wide_Cmp.f (k : Nat) (a0_0 : Int) (a0_1 : Int) (a1_0 : Int) (a1_1 : Int) : Option (Int) := if a0_0 < a1_0 then (wide_Wide_Cmp.j0 k true a0_0 a0_1 a1_0 a1_1) else (if a0_0 = a1_0 then (wide_Wide_Cmp.j0 k (decide (a0_1 < a1_1)) a0_0 a0_1 a1_0 a1_1) else (wide_Wide_Cmp.j0 k false a0_0 a0_1 a1_0 a1_1))
theorem wide_Wide_Cmp.mono_l : ∀ k, (∀ y0 y1 y2 y3 y4, LeO (wide_Wide_Cmp.j0 k y0 y1 y2 y3 y4) (wide_Wide_Cmp.j0 (k + 1) y0 y1 y2 y3 y4))
 | 0 => fun _ _ _ _ _ r h => by simp [wide_Wide_Cmp.j0] at h
 | k + 1 => by
  have ih0 := wide_Wide_Cmp.mono_l k
  ·
   intro y0 y1 y2 y3 y4
   unfold wide_Wide_Cmp.j0
   repeat' with_reducible first | apply ih0 | exact LeO.refl _ | exact LeO.none _ | refine LeO.ite ?_ ?_ | refine LeO.bind ?_ (fun _ => ?_)
theorem wide_Wide_Cmp.mono : ∀ a0 a1 a2 a3 k, LeO (wide_Wide_Cmp.f k a0 a1 a2 a3) (wide_Wide_Cmp.f (k + 1) a0 a1 a2 a3) := by
 intro a0 a1 a2 a3 k
 have ih0 := wide_Wide_Cmp.mono_l k
 unfold wide_Wide_Cmp.f
 repeat' with_reducible first | apply ih0 | exact LeO.refl _ | exact LeO.none _ | refine LeO.ite ?_ ?_ | refine LeO.bind ?_ (fun _ => ?_)
set_option maxHeartbeats 8000000 in
set_option maxRecDepth 100000 in
theorem wide_Wide_Cmp.calls (k : Nat) (a0_0 : Int) (a0_1 : Int) (a1_0 : Int) (a1_1 : Int) (r : Int) (w : World) (h : wide_Wide_Cmp.f k a0_0 a0_1 a1_0 a1_1 = some r) :
  Calls Try.prog 47 #[.agg #[.int .u64 a0_0, .int .u64 a0_1], .agg #[.int .u64 a1_0, .int .u64 a1_1]] w fun e w' => e = .returned (.int .i64 r) ∧ Below w.heap.size w w' := by
 have hu58 := Try.underlying58
 have HB := Aside0.mk (Below.refl w.heap.size w)
 have H : (if a0_0 < a1_0 then (wide_Wide_Cmp.j0 k true a0_0 a0_1 a1_0 a1_1) else (if a0_0 = a1_0 then (wide_Wide_Cmp.j0 k (decide (a0_1 < a1_1)) a0_0 a0_1 a1_0 a1_1) else (wide_Wide_Cmp.j0 k false a0_0 a0_1 a1_0 a1_1))) = some r := h
 clear h
 have HC3 := Aside0.mk H
 clear H
 go_enter Try.func47, Try.ntmps47
 go_upto_region 1 with (first | ((with_reducible refine gate_dst (N := 2) rfl ?_); refine gbox (N := 2) (cs := #[.int .u64 a0_0, .int .u64 a0_1]) (t := 58) ?_; intro gb260 hg w4 hbox hb; refine ax4 (below_step bel hb) hbox ((ge hg : w.heap.size ≤ gb260)) ((ge hg : w.heap.size ≤ gb260)) ?_; clear HB; intro HB BK260 GW260 GE260; clear hb hbox hg) | ((with_reducible refine gate_dst (N := 3) rfl ?_); refine gbox (N := 3) (cs := #[.int .u64 a1_0, .int .u64 a1_1]) (t := 58) ?_; intro gb261 hg w5 hbox hb; refine ax7 (bb BK260 hb) (below_step bes hb) hbox ((ge hg : w.heap.size ≤ gb261)) ((ge hg : w.heap.size ≤ gb261)) (nl hg BK260) (ng hg BK260) ?_; clear BK260; clear HB; intro BK260 HB BK261 GW261 GE261 NB260_261 NB261_260; clear hb hbox hg))
 (try simp only [Act.put, sa0, sa1, sa2])
 go_cut [5] (fun v5 wc => ∃ (kq : Nat) (x5_2 : Bool), v5 = .bool x5_2 ∧ Aside0 (wide_Wide_Cmp.j0 kq x5_2 a0_0 a0_1 a1_0 a1_1 = some r) ∧ Aside0 (kq ≤ k) ∧ Aside0 (wc.heap[gb260]? = some (.cells #[.int .u64 a0_0, .int .u64 a0_1] 58 (0, 0))) ∧ Aside0 (wc.heap[gb261]? = some (.cells #[.int .u64 a1_0, .int .u64 a1_1] 58 (0, 0))) ∧ Aside0 (Below w.heap.size w wc))
 case first =>
  have H := HC3.out
  clear HC3
  by_cases c6 : a0_0 < a1_0
  ·
   rw [if_pos c6] at H
   have c6b0 : decide (a0_0 < a1_0) = true := decide_eq_true c6
   clear c6
   (first | rw [c6b0] | (simp only [i64_w, i32_w]; rw [c6b0]) | skip)
   have H' := Aside0.mk H
   clear H
   have hnb7 := NB260_261.out
   have hnc7 := NB261_260.out
   have hcz8_0 := bc BK260 0 rfl
   have hcz8_1 := bc BK260 1 rfl
   have hfz8_0 := blk_frozen BK260.out 0
   have hfz8_1 := blk_frozen BK260.out 1
   have hcz9_0 := bc BK261 0 rfl
   have hcz9_1 := bc BK261 1 rfl
   have hfz9_0 := blk_frozen BK261.out 0
   have hfz9_1 := blk_frozen BK261.out 1
   go_wp2
   go_meet
   case rel => exact ⟨_, (true), (by first | rfl | (simp; done) | (simp [*]; done)), H', ⟨by first | omega | exact Nat.le_refl _⟩, ⟨kb BK260⟩, ⟨kb BK261⟩, ⟨bes⟩⟩
  ·
   rw [if_neg c6] at H
   have c6b0 : decide (a0_0 < a1_0) = false := decide_eq_false c6
   clear c6
   (first | rw [c6b0] | (simp only [i64_w, i32_w]; rw [c6b0]) | skip)
   by_cases c10 : a0_0 = a1_0
   ·
    rw [if_pos c10] at H
    have c10b0 : (a0_0 == a1_0) = true := beq_iff_eq.mpr c10
    have c10b1 : (a0_0 != a1_0) = false := bne_eq_false_iff_eq.mpr c10
    clear c10
    have H' := Aside0.mk H
    clear H
    have hnb11 := NB260_261.out
    have hnc11 := NB261_260.out
    have hcz12_0 := bc BK260 0 rfl
    have hcz12_1 := bc BK260 1 rfl
    have hfz12_0 := blk_frozen BK260.out 0
    have hfz12_1 := blk_frozen BK260.out 1
    have hcz13_0 := bc BK261 0 rfl
    have hcz13_1 := bc BK261 1 rfl
    have hfz13_0 := blk_frozen BK261.out 0
    have hfz13_1 := blk_frozen BK261.out 1
    go_wp2
    go_meet
    case rel => exact ⟨_, (decide (a0_1 < a1_1)), (by first | rfl | (simp; done) | (simp [*]; done)), H', ⟨by first | omega | exact Nat.le_refl _⟩, ⟨kb BK260⟩, ⟨kb BK261⟩, ⟨bes⟩⟩
   ·
    rw [if_neg c10] at H
    have c10b0 : (a0_0 == a1_0) = false := beq_eq_false_iff_ne.mpr c10
    have c10b1 : (a0_0 != a1_0) = true := bne_iff_ne.mpr c10
    have H' := Aside0.mk H
    clear H
    have hnb14 := NB260_261.out
    have hnc14 := NB261_260.out
    have hcz15_0 := bc BK260 0 rfl
    have hcz15_1 := bc BK260 1 rfl
    have hfz15_0 := blk_frozen BK260.out 0
    have hfz15_1 := blk_frozen BK260.out 1
    have hcz16_0 := bc BK261 0 rfl
    have hcz16_1 := bc BK261 1 rfl
    have hfz16_0 := blk_frozen BK261.out 0
    have hfz16_1 := blk_frozen BK261.out 1
    go_wp2
    go_meet
    case rel => exact ⟨_, (false), (by first | rfl | (simp; done) | (simp [*]; done)), H', ⟨by first | omega | exact Nat.le_refl _⟩, ⟨kb BK260⟩, ⟨kb BK261⟩, ⟨bes⟩⟩
 case rest =>
  clear HC3
  try clear c1
  try clear p2
  try clear c4
  try clear c6
  try clear c6b0
  try clear c7
  try clear c10
  try clear c10b0
  try clear c10b1
  try clear c11
  try clear c14
  try clear hcz12_0
  try clear hcz12_1
  try clear hcz13_0
  try clear hcz13_1
  try clear hcz15_0
  try clear hcz15_1
  try clear hcz16_0
  try clear hcz16_1
  try clear hcz8_0
  try clear hcz8_1
  try clear hcz9_0
  try clear hcz9_1
  try clear hfz12_0
  try clear hfz12_1
  try clear hfz13_0
  try clear hfz13_1
  try clear hfz15_0
  try clear hfz15_1
  try clear hfz16_0
  try clear hfz16_1
  try clear hfz8_0
  try clear hfz8_1
  try clear hfz9_0
  try clear hfz9_1
  obtain ⟨kq, x5_2, rfl, HA, HJ2, BK260, BK261, HB⟩ := hcut
  cases kq with
  | zero => exact absurd HA.out (by simp [wide_Wide_Cmp.j0])
  | succ kj2 =>
   have H := HA.out
   clear HA
   simp only [wide_Wide_Cmp.j0] at H
   by_cases c17 : x5_2 = true
   ·
    subst c17
    rw [if_pos rfl] at H
    obtain rfl := Option.some.inj H
    go_wp2
    go_ret
    exact ⟨er, bes⟩
   ·
    replace c17 := Bool.eq_false_iff.mpr c17
    subst c17
    rw [if_neg (show ¬ (false = true) by decide)] at H
    by_cases c18 : (a0_0 == a1_0 && (a0_1 == a1_1)) = true
    ·
     rw [if_pos c18] at H
     have c18b0 : (a0_0 == a1_0 && (a0_1 == a1_1)) = true := c18
     (try (have c18b1 : decide (a0_0 = a1_0 && (a0_1 == a1_1)) = true := by simpa using c18))
     (try (have c18b2 : (a0_0 == a1_0 && (a0_1 == a1_1)) = true := by simpa using c18))
     clear c18
     obtain rfl := Option.some.inj H
     have hnb19 := NB260_261.out
     have hnc19 := NB261_260.out
     have hcz20_0 := bc BK260 0 rfl
     have hcz20_1 := bc BK260 1 rfl
     have hfz20_0 := blk_frozen BK260.out 0
     have hfz20_1 := blk_frozen BK260.out 1
     have hcz21_0 := bc BK261 0 rfl
     have hcz21_1 := bc BK261 1 rfl
     have hfz21_0 := blk_frozen BK261.out 0
     have hfz21_1 := blk_frozen BK261.out 1
     go_wp2
     go_ret
     exact ⟨er, bes⟩
    ·
     rw [if_neg c18] at H
     have c18b0 : (a0_0 == a1_0 && (a0_1 == a1_1)) = false := by simpa using c18
     (try (have c18b1 : decide (a0_0 = a1_0 && (a0_1 == a1_1)) = false := by simpa using c18))
     (try (have c18b2 : (a0_0 == a1_0 && (a0_1 == a1_1)) = false := by simpa using c18))
     (try (have c18b3 : ¬ (a0_0 = a1_0 && (a0_1 == a1_1)) := by simpa using c18))
     clear c18
     obtain rfl := Option.some.inj H
     have hnb22 := NB260_261.out
     have hnc22 := NB261_260.out
     have hcz23_0 := bc BK260 0 rfl
     have hcz23_1 := bc BK260 1 rfl
     have hfz23_0 := blk_frozen BK260.out 0
     have hfz23_1 := blk_frozen BK260.out 1
     have hcz24_0 := bc BK261 0 rfl
     have hcz24_1 := bc BK261 1 rfl
     have hfz24_0 := blk_frozen BK261.out 0
     have hfz24_1 := blk_frozen BK261.out 1
     go_wp2
     go_ret
     exact ⟨er, bes⟩

/-! ### wide_Wide_Sqrt: function 34 -/
def wide_Wide_Sqrt.l0 : Nat → Int → Int → Int → Int → Option (Int × Bool)
 | 0, _, _, _, _ => none
 | k + 1, x4, x5, x263000, x263001 => if x5 ≥ 0 then (if 0 ≤ x5 then ((wide_Mul.f (Go.bits .or .u64 x4 (shl .u64 1 x5)) (Go.bits .or .u64 x4 (shl .u64 1 x5))).bind fun bt265 => ((wide_Wide_Cmp.f k bt265.1 bt265.2 x263000 x263001).bind fun t267 => (if t267 ≤ 0 then (wide_Wide_Sqrt.l0 k (Go.bits .or .u64 x4 (shl .u64 1 x5)) (wrap64 (x5 - 1)) x263000 x263001) else (wide_Wide_Sqrt.l0 k x4 (wrap64 (x5 - 1)) x263000 x263001)))) else (none)) else ((wide_Mul.f x4 x4).bind fun bt263 => (some (x4, (bt263.1 == x263000 && (bt263.2 == x263001)))))
def wide_Wide_Sqrt.f (k : Nat) (a0_0 : Int) (a0_1 : Int) : Option (Int × Bool) := wide_Wide_Sqrt.l0 k 0 63 a0_0 a0_1
theorem wide_Wide_Sqrt.mono_l : ∀ k, (∀ y0 y1 y2 y3, LeO (wide_Wide_Sqrt.l0 k y0 y1 y2 y3) (wide_Wide_Sqrt.l0 (k + 1) y0 y1 y2 y3))
 | 0 => fun _ _ _ _ r h => by simp [wide_Wide_Sqrt.l0] at h
 | k + 1 => by
  have ih0 := wide_Wide_Sqrt.mono_l k
  ·
   intro y0 y1 y2 y3
   unfold wide_Wide_Sqrt.l0
   repeat' with_reducible first | apply ih0 | apply wide_Wide_Cmp.mono | exact LeO.refl _ | exact LeO.none _ | refine LeO.ite ?_ ?_ | refine LeO.bind ?_ (fun _ => ?_)
theorem wide_Wide_Sqrt.mono : ∀ a0 a1 k, LeO (wide_Wide_Sqrt.f k a0 a1) (wide_Wide_Sqrt.f (k + 1) a0 a1) := by
 intro a0 a1 k
 have ih0 := wide_Wide_Sqrt.mono_l k
 unfold wide_Wide_Sqrt.f
 repeat' with_reducible first | apply ih0 | apply wide_Wide_Cmp.mono | exact LeO.refl _ | exact LeO.none _ | refine LeO.ite ?_ ?_ | refine LeO.bind ?_ (fun _ => ?_)
def wide_Wide_Sqrt.T8 : Bool × List (List Nat × List Nat) := (true, [([], []), ([], []), ([], []), ([1, 2], [1, 2]), ([], []), ([3, 4], [3, 4]), ([0, 3, 0], [0]), ([5, 6, 0, 1, 2, 3, 4, 5, 6], [5])])
def wide_Wide_Sqrt.B8 : List Nat := [0, 0, 0, 6, 0, 30, 15, 127]
theorem wide_Wide_Sqrt.tab8 : rtab .any (opsOf Try.f34 8) = wide_Wide_Sqrt.T8 := by kernel_rfl
theorem wide_Wide_Sqrt.bits8 : waitsOk wide_Wide_Sqrt.T8.2 wide_Wide_Sqrt.B8 = true := by kernel_rfl
set_option maxHeartbeats 8000000 in
set_option maxRecDepth 100000 in
theorem wide_Wide_Sqrt.calls (k : Nat) (a0_0 : Int) (a0_1 : Int) (r1 : Int) (r2 : Bool) (w : World) (h : wide_Wide_Sqrt.f k a0_0 a0_1 = some (r1, r2)) :
  Calls Try.prog 34 #[.agg #[.int .u64 a0_0, .int .u64 a0_1]] w fun e w' => e = .returned (.tuple #[.int .u64 r1, .bool r2]) ∧ Below w.heap.size w w' := by
 have hu58 := Try.underlying58
 have HB := Aside0.mk (Below.refl w.heap.size w)
 have H : (wide_Wide_Sqrt.l0 k 0 63 a0_0 a0_1) = some (r1, r2) := h
 clear h
 have H' := Aside0.mk H
 clear H
 go_enter Try.func34, Try.ntmps34
 go_wp2_with (first | ((with_reducible refine gate_dst (N := 1) rfl ?_); refine gbox (N := 1) (cs := #[.int .u64 a0_0, .int .u64 a0_1]) (t := 58) ?_; intro gb262 hg w2 hbox hb; refine ax4 (below_step bel hb) hbox ((ge hg : w.heap.size ≤ gb262)) ((ge hg : w.heap.size ≤ gb262)) ?_; clear HB; intro HB BK262 GW262 GE262; clear hb hbox hg))
 go_loopg [4, 5] k (fun kq v4 v5 w' => ∃ (x4_1 : Int) (x5_1 : Int), v4 = .int .u64 x4_1 ∧ v5 = .int .i64 x5_1 ∧ Aside0 (wide_Wide_Sqrt.l0 kq x4_1 x5_1 a0_0 a0_1 = some (r1, r2)) ∧ Aside0 (kq ≤ k) ∧ Aside0 (w'.heap[gb262]? = some (.cells #[.int .u64 a0_0, .int .u64 a0_1] 58 (0, 0))) ∧ Aside0 (Below w.heap.size w w'))
 case atStart => exact ⟨(0), (63), (by first | rfl | (simp; done) | (simp [*]; done)), (by first | rfl | (simp; done) | (simp [*]; done)), H', ⟨Nat.le_refl _⟩, ⟨kb BK262⟩, ⟨bes⟩⟩
 case round =>
  clear H'
  try clear p2
  obtain ⟨x4_1, x5_1, rfl, rfl, HA, HK1, BK262, HB⟩ := hrel
  cases gk with
  | zero => exact absurd HA.out (by simp [wide_Wide_Sqrt.l0])
  | succ k1 =>
   have H := HA.out
   clear HA
   simp only [wide_Wide_Sqrt.l0] at H
   by_cases c3 : x5_1 ≥ 0
   ·
    rw [if_pos c3] at H
    have c3b0 : decide (0 ≤ x5_1) = true := decide_eq_true c3
    clear c3
    by_cases c4 : 0 ≤ x5_1
    rotate_left
    ·
     rw [if_neg c4] at H
     exact absurd H (by simp)
    rw [if_pos c4] at H
    have c4b0 := eq_true c4
    have c4b1 : decide (0 ≤ x5_1) = true := decide_eq_true c4
    clear c4
    obtain ⟨ji5, hji5⟩ : ∃ j_ : Int, (shl .u64 1 x5_1) = j_ := ⟨_, rfl⟩
    replace H : ((wide_Mul.f (Go.bits .or .u64 x4_1 (ji5)) (Go.bits .or .u64 x4_1 (ji5))).bind fun bt265 => ((wide_Wide_Cmp.f k1 bt265.1 bt265.2 a0_0 a0_1).bind fun t267 => (if t267 ≤ 0 then (wide_Wide_Sqrt.l0 k1 (Go.bits .or .u64 x4_1 (ji5)) (wrap64 (x5_1 - 1)) a0_0 a0_1) else (wide_Wide_Sqrt.l0 k1 x4_1 (wrap64 (x5_1 - 1)) a0_0 a0_1)))) = some (r1, r2) := by first | (rw [hji5] at H; exact H) | (simp only [hji5] at H ⊢; exact H)
    have hji5_ : (IntKind.u64.wrap (1 * 2 ^ min x5_1.toNat 64)) = ji5 := hji5
    have hji5z : x5_1 ≤ 64 → (IntKind.u64.wrap (1 * 2 ^ x5_1.toNat)) = ji5 := shl_small hji5
    have hji5u : (IntKind.u64.wrap (2 ^ min x5_1.toNat 64)) = ji5 := by have h_ := hji5_; rw [Int.one_mul] at h_; exact h_
    have hji5v : x5_1 ≤ 64 → (IntKind.u64.wrap (2 ^ x5_1.toNat)) = ji5 := fun hle_ => by have h_ := hji5z hle_; rw [Int.one_mul] at h_; exact h_
    obtain ⟨⟨t265, t266⟩, A60, H⟩ := Option.bind_eq_some_iff.mp H
    (try dsimp -simprocs only at H)
    have A6 := Aside0.mk A60
    clear A60
    obtain ⟨t267, A70, H⟩ := Option.bind_eq_some_iff.mp H
    (try dsimp -simprocs only at H)
    have A7 := Aside0.mk A70
    clear A70
    by_cases c8 : t267 ≤ 0
    ·
     rw [if_pos c8] at H
     have c8b0 : decide (t267 ≤ 0) = true := decide_eq_true c8
     clear c8
     have H' := Aside0.mk H
     clear H
     try go_wp2
     refine ax2 (blk_drew BK262.out) (below_drew1 HB.out) ?_
     clear BK262 HB
     intro BK262 HB
     refine start_ (n := 6) (S := fun w' => w'.cell? ⟨gb262, 0, none⟩ = some (.int .u64 a0_0) ∧ w'.cell? ⟨gb262, 1, none⟩ = some (.int .u64 a0_1)) (ds := []) #[false, false, false, false, false, false] (by kernel_rfl) rfl rfl ⟨(blk_cell BK262.out 0).trans rfl, (blk_cell BK262.out 1).trans rfl⟩ (fun hHeld => ?_)
     generalize wr.drew = w9 at BK262 HB hHeld ⊢
     refine pure_ (i := 0) (N := some 15) (v := ?_) (a' := ?_) #[true, false, false, false, false, false] rfl rfl (by kernel_rfl) (fun _ _ _ h => h) (Or.inl ⟨by rfl, ?_⟩) ?_ ?_
     rotate_left
     ·
      intro w'
      go_simp
      with_reducible rfl
     rotate_left
     ·
      simp only [Act.put, sa0, sa1, sa2, i64_w, i32_w]
      rfl
     refine pure_ (i := 1) (N := some 16) (v := ?_) (a' := ?_) #[true, true, false, false, false, false] rfl rfl (by kernel_rfl) (fun _ _ _ h => h) (Or.inl ⟨by rfl, ?_⟩) ?_ ?_
     rotate_left
     ·
      intro w'
      go_simp
      with_reducible rfl
     rotate_left
     ·
      simp only [Act.put, sa0, sa1, sa2, i64_w, i32_w]
      rfl
     refine take_ (i := 3) (N := some 18) (v := ?_) (a' := ?_) #[true, true, false, true, false, false] rfl rfl (by kernel_rfl) (fun _ _ _ h => h) (Or.inl ⟨by rfl, ?_⟩) hHeld ?_ ?_
     rotate_left
     ·
      rintro w' ⟨s0, s1⟩
      go_simp
      with_reducible rfl
     rotate_left
     ·
      simp only [Act.put, sa0, sa1, sa2, i64_w, i32_w]
      rfl
     refine one_ (i := 2) (N := some 17) #[true, true, true, true, false, false] rfl rfl (by kernel_rfl) (by decide) (fun K hK => ?_)
     refine goes_ Try.func46 (by kernel_rfl) rfl #[.int .u64 (Go.bits .or .u64 x4_1 (ji5)), .int .u64 (Go.bits .or .u64 x4_1 (ji5))] (by rfl) rfl rfl (by (try simp only [List.map_toArray, List.map_cons, List.map_nil]); first | done | (simp only [hji5]; rfl) | rfl | (simp only [List.length_drop, List.length_take]; rfl)) ?_
     with_reducible refine (wide_Mul.calls (Go.bits .or .u64 x4_1 (ji5)) (Go.bits .or .u64 x4_1 (ji5)) t265 t266 _ A6.out).mono ?_
     rintro e w10 ⟨rfl, hb⟩
     refine ⟨_, rfl, ?_⟩
     refine ax2 (bb BK262 hb) (below_step bes hb) ?_
     clear BK262 HB
     intro BK262 HB
     (try clear hb)
     (try clear hb2)
     (try clear hk)
     (try clear hi)
     refine hK.out _ _ ⟨(blk_cell BK262.out 0).trans rfl, (blk_cell BK262.out 1).trans rfl⟩ (fun hHeld => ?_)
     clear hK K
     refine norm_ (a' := ?_) ?_ ?_
     rotate_left
     ·
      show Act.put _ (some 17) _ = _
      simp only [Act.put, sa0, sa1, sa2, i64_w, i32_w]
      rfl
     refine one_ (i := 4) (N := some 19) #[true, true, true, true, true, false] rfl rfl (by kernel_rfl) (by decide) (fun K hK => ?_)
     refine goes_ Try.func47 (by kernel_rfl) rfl #[.agg #[.int .u64 t265, .int .u64 t266], .agg #[.int .u64 a0_0, .int .u64 a0_1]] (by rfl) rfl rfl ga ?_
     with_reducible refine (wide_Wide_Cmp.calls k1 t265 t266 a0_0 a0_1 t267 _ A7.out).mono ?_
     rintro e w11 ⟨rfl, hb⟩
     refine ⟨_, rfl, ?_⟩
     refine ax2 (bb BK262 hb) (below_step bes hb) ?_
     clear BK262 HB
     intro BK262 HB
     (try clear hb)
     (try clear hb2)
     (try clear hk)
     (try clear hi)
     refine hK.out _ _ ⟨(blk_cell BK262.out 0).trans rfl, (blk_cell BK262.out 1).trans rfl⟩ (fun hHeld => ?_)
     clear hK K
     refine norm_ (a' := ?_) ?_ ?_
     rotate_left
     ·
      show Act.put _ (some 19) _ = _
      simp only [Act.put, sa0, sa1, sa2, i64_w, i32_w]
      rfl
     refine pure_ (i := 5) (N := some 20) (v := ?_) (a' := ?_) #[true, true, true, true, true, true] rfl rfl (by kernel_rfl) (fun _ _ _ h => h) (Or.inl ⟨by rfl, ?_⟩) ?_ ?_
     rotate_left
     ·
      intro w'
      go_simp
      with_reducible rfl
     rotate_left
     ·
      simp only [Act.put, sa0, sa1, sa2, i64_w, i32_w]
      rfl
     refine done_ (by kernel_rfl) ?_
     try go_wp2
     go_roundg k1
     case measure => have := HK1.out; omega
     case rel => exact ⟨(Go.bits .or .u64 x4_1 (ji5)), (wrap64 (x5_1 - 1)), (by first | rfl | (simp; done) | (simp only [← hji5] <;> (first | rfl | simp)) | (simp [*]; done)), (by first | rfl | (simp; done) | (simp [*]; done)), H', ⟨by have := HK1.out; omega⟩, ⟨kb BK262⟩, ⟨bes⟩⟩
    ·
     rw [if_neg c8] at H
     have c8b0 : decide (t267 ≤ 0) = false := decide_eq_false c8
     clear c8
     have H' := Aside0.mk H
     clear H
     try go_wp2
     refine ax2 (blk_drew BK262.out) (below_drew1 HB.out) ?_
     clear BK262 HB
     intro BK262 HB
     refine start_ (n := 6) (S := fun w' => w'.cell? ⟨gb262, 0, none⟩ = some (.int .u64 a0_0) ∧ w'.cell? ⟨gb262, 1, none⟩ = some (.int .u64 a0_1)) (ds := []) #[false, false, false, false, false, false] (by kernel_rfl) rfl rfl ⟨(blk_cell BK262.out 0).trans rfl, (blk_cell BK262.out 1).trans rfl⟩ (fun hHeld => ?_)
     generalize wr.drew = w12 at BK262 HB hHeld ⊢
     refine pure_ (i := 0) (N := some 15) (v := ?_) (a' := ?_) #[true, false, false, false, false, false] rfl rfl (by kernel_rfl) (fun _ _ _ h => h) (Or.inl ⟨by rfl, ?_⟩) ?_ ?_
     rotate_left
     ·
      intro w'
      go_simp
      with_reducible rfl
     rotate_left
     ·
      simp only [Act.put, sa0, sa1, sa2, i64_w, i32_w]
      rfl
     refine pure_ (i := 1) (N := some 16) (v := ?_) (a' := ?_) #[true, true, false, false, false, false] rfl rfl (by kernel_rfl) (fun _ _ _ h => h) (Or.inl ⟨by rfl, ?_⟩) ?_ ?_
     rotate_left
     ·
      intro w'
      go_simp
      with_reducible rfl
     rotate_left
     ·
      simp only [Act.put, sa0, sa1, sa2, i64_w, i32_w]
      rfl
     refine take_ (i := 3) (N := some 18) (v := ?_) (a' := ?_) #[true, true, false, true, false, false] rfl rfl (by kernel_rfl) (fun _ _ _ h => h) (Or.inl ⟨by rfl, ?_⟩) hHeld ?_ ?_
     rotate_left
     ·
      rintro w' ⟨s0, s1⟩
      go_simp
      with_reducible rfl
     rotate_left
     ·
      simp only [Act.put, sa0, sa1, sa2, i64_w, i32_w]
      rfl
     refine one_ (i := 2) (N := some 17) #[true, true, true, true, false, false] rfl rfl (by kernel_rfl) (by decide) (fun K hK => ?_)
     refine goes_ Try.func46 (by kernel_rfl) rfl #[.int .u64 (Go.bits .or .u64 x4_1 (ji5)), .int .u64 (Go.bits .or .u64 x4_1 (ji5))] (by rfl) rfl rfl (by (try simp only [List.map_toArray, List.map_cons, List.map_nil]); first | done | (simp only [hji5]; rfl) | rfl | (simp only [List.length_drop, List.length_take]; rfl)) ?_
     with_reducible refine (wide_Mul.calls (Go.bits .or .u64 x4_1 (ji5)) (Go.bits .or .u64 x4_1 (ji5)) t265 t266 _ A6.out).mono ?_
     rintro e w13 ⟨rfl, hb⟩
     refine ⟨_, rfl, ?_⟩
     refine ax2 (bb BK262 hb) (below_step bes hb) ?_
     clear BK262 HB
     intro BK262 HB
     (try clear hb)
     (try clear hb2)
     (try clear hk)
     (try clear hi)
     refine hK.out _ _ ⟨(blk_cell BK262.out 0).trans rfl, (blk_cell BK262.out 1).trans rfl⟩ (fun hHeld => ?_)
     clear hK K
     refine norm_ (a' := ?_) ?_ ?_
     rotate_left
     ·
      show Act.put _ (some 17) _ = _
      simp only [Act.put, sa0, sa1, sa2, i64_w, i32_w]
      rfl
     refine one_ (i := 4) (N := some 19) #[true, true, true, true, true, false] rfl rfl (by kernel_rfl) (by decide) (fun K hK => ?_)
     refine goes_ Try.func47 (by kernel_rfl) rfl #[.agg #[.int .u64 t265, .int .u64 t266], .agg #[.int .u64 a0_0, .int .u64 a0_1]] (by rfl) rfl rfl ga ?_
     with_reducible refine (wide_Wide_Cmp.calls k1 t265 t266 a0_0 a0_1 t267 _ A7.out).mono ?_
     rintro e w14 ⟨rfl, hb⟩
     refine ⟨_, rfl, ?_⟩
     refine ax2 (bb BK262 hb) (below_step bes hb) ?_
     clear BK262 HB
     intro BK262 HB
     (try clear hb)
     (try clear hb2)
     (try clear hk)
     (try clear hi)
     refine hK.out _ _ ⟨(blk_cell BK262.out 0).trans rfl, (blk_cell BK262.out 1).trans rfl⟩ (fun hHeld => ?_)
     clear hK K
     refine norm_ (a' := ?_) ?_ ?_
     rotate_left
     ·
      show Act.put _ (some 19) _ = _
      simp only [Act.put, sa0, sa1, sa2, i64_w, i32_w]
      rfl
     refine pure_ (i := 5) (N := some 20) (v := ?_) (a' := ?_) #[true, true, true, true, true, true] rfl rfl (by kernel_rfl) (fun _ _ _ h => h) (Or.inl ⟨by rfl, ?_⟩) ?_ ?_
     rotate_left
     ·
      intro w'
      go_simp
      with_reducible rfl
     rotate_left
     ·
      simp only [Act.put, sa0, sa1, sa2, i64_w, i32_w]
      rfl
     refine done_ (by kernel_rfl) ?_
     try go_wp2
     go_roundg k1
     case measure => have := HK1.out; omega
     case rel => exact ⟨(x4_1), (wrap64 (x5_1 - 1)), (by first | rfl | (simp; done) | (simp [*]; done)), (by first | rfl | (simp; done) | (simp [*]; done)), H', ⟨by have := HK1.out; omega⟩, ⟨kb BK262⟩, ⟨bes⟩⟩
   ·
    rw [if_neg c3] at H
    have c3b0 : decide (0 ≤ x5_1) = false := decide_eq_false c3
    clear c3
    obtain ⟨⟨t263, t264⟩, A150, H⟩ := Option.bind_eq_some_iff.mp H
    (try dsimp -simprocs only at H)
    have A15 := Aside0.mk A150
    clear A150
    simp only [Option.some.injEq, Prod.mk.injEq] at H
    obtain ⟨rfl, rfl⟩ := H
    try go_wp2
    refine ax2 (blk_drew BK262.out) (below_drew1 HB.out) ?_
    clear BK262 HB
    intro BK262 HB
    refine start_ (n := 8) (S := fun w' => w'.cell? ⟨gb262, 0, none⟩ = some (.int .u64 a0_0) ∧ w'.cell? ⟨gb262, 1, none⟩ = some (.int .u64 a0_1)) (ds := []) #[false, false, false, false, false, false, false, false] (by kernel_rfl) rfl rfl ⟨(blk_cell BK262.out 0).trans rfl, (blk_cell BK262.out 1).trans rfl⟩ (fun hHeld => ?_); refine with_tabW wide_Wide_Sqrt.tab8 wide_Wide_Sqrt.bits8 (fun HT_ HW_ => ?_)
    generalize wr.drew = w16 at BK262 HB hHeld ⊢
    refine pure_ (i := 0) (N := some 22) (v := ?_) (a' := ?_) #[true, false, false, false, false, false, false, false] rfl rfl (any_of HT_.out (by kernel_rfl)) (fun _ _ _ h => h) (Or.inl ⟨by rfl, ?_⟩) ?_ ?_
    rotate_left
    ·
     intro w'
     go_simp
     with_reducible rfl
    rotate_left
    ·
     simp only [Act.put, sa0, sa1, sa2, i64_w, i32_w]
     rfl
    refine pure_ (i := 1) (N := some 23) (v := ?_) (a' := ?_) #[true, true, false, false, false, false, false, false] rfl rfl (any_of HT_.out (by kernel_rfl)) (fun _ _ _ h => h) (Or.inl ⟨by rfl, ?_⟩) ?_ ?_
    rotate_left
    ·
     intro w'
     go_simp
     with_reducible rfl
    rotate_left
    ·
     simp only [Act.put, sa0, sa1, sa2, i64_w, i32_w]
     rfl
    refine pure_ (i := 2) (N := some 24) (v := ?_) (a' := ?_) #[true, true, true, false, false, false, false, false] rfl rfl (any_of HT_.out (by kernel_rfl)) (fun _ _ _ h => h) (Or.inl ⟨by rfl, ?_⟩) ?_ ?_
    rotate_left
    ·
     intro w'
     go_simp
     with_reducible rfl
    rotate_left
    ·
     simp only [Act.put, sa0, sa1, sa2, i64_w, i32_w]
     rfl
    refine take_ (i := 4) (N := some 26) (v := ?_) (a' := ?_) #[true, true, true, false, true, false, false, false] rfl rfl (take_ofW HT_.out HW_.out (by kernel_rfl)) (fun _ _ _ h => h) (Or.inl ⟨by rfl, ?_⟩) hHeld ?_ ?_
    rotate_left
    ·
     rintro w' ⟨s0, s1⟩
     go_simp
     with_reducible rfl
    rotate_left
    ·
     simp only [Act.put, sa0, sa1, sa2, i64_w, i32_w]
     rfl
    refine one_ (i := 3) (N := some 25) #[true, true, true, true, true, false, false, false] rfl rfl (one_of HT_.out (by kernel_rfl)) (by decide) (fun K hK => ?_)
    refine goes_ Try.func46 (by kernel_rfl) rfl #[.int .u64 x4_1, .int .u64 x4_1] (by rfl) rfl rfl ga ?_
    with_reducible refine (wide_Mul.calls x4_1 x4_1 t263 t264 _ A15.out).mono ?_
    rintro e w17 ⟨rfl, hb⟩
    refine ⟨_, rfl, ?_⟩
    refine ax2 (bb BK262 hb) (below_step bes hb) ?_
    clear BK262 HB
    intro BK262 HB
    (try clear hb)
    (try clear hb2)
    (try clear hk)
    (try clear hi)
    refine hK.out _ _ ⟨(blk_cell BK262.out 0).trans rfl, (blk_cell BK262.out 1).trans rfl⟩ (fun hHeld => ?_)
    clear hK K
    refine norm_ (a' := ?_) ?_ ?_
    rotate_left
    ·
     show Act.put _ (some 25) _ = _
     simp only [Act.put, sa0, sa1, sa2, i64_w, i32_w]
     rfl
    refine pure_ (i := 5) (N := some 27) (v := ?_) (a' := ?_) #[true, true, true, true, true, true, false, false] rfl rfl (any_of HT_.out (by kernel_rfl)) (fun _ _ _ h => h) (Or.inl ⟨by rfl, ?_⟩) ?_ ?_
    rotate_left
    ·
     intro w'
     go_simp
     with_reducible rfl
    rotate_left
    ·
     simp only [Act.put, sa0, sa1, sa2, i64_w, i32_w]
     rfl
    refine pure_ (i := 6) (N := some 2) (v := ?_) (a' := ?_) #[true, true, true, true, true, true, true, false] rfl rfl (any_of HT_.out (by kernel_rfl)) (fun _ _ _ h => h) (Or.inl ⟨by rfl, ?_⟩) ?_ ?_
    rotate_left
    ·
     intro w'
     go_simp
     with_reducible rfl
    rotate_left
    ·
     simp only [Act.put, sa0, sa1, sa2, i64_w, i32_w]
     rfl
    refine pure_ (i := 7) (N := some 3) (v := ?_) (a' := ?_) #[true, true, true, true, true, true, true, true] rfl rfl (any_of HT_.out (by kernel_rfl)) (fun _ _ _ h => h) (Or.inl ⟨by rfl, ?_⟩) ?_ ?_
    rotate_left
    ·
     intro w'
     go_simp
     with_reducible rfl
    rotate_left
    ·
     simp only [Act.put, sa0, sa1, sa2, i64_w, i32_w]
     rfl
    refine done_ (done_of HT_.out (by kernel_rfl)) ?_
    try go_wp2
    go_ret2
    exact ⟨er, bes⟩

/-! ### more_Sqrt: function 13 -/
def more_Sqrt.j0 : Nat → Int → Bool → Option (Int × Int)
 | 0, _, _ => none
 | k + 1, x0, x15 => if x15 = true then (some (x0, 0)) else ((word_Neg.f x0).bind fun t271 => (if t271 = true then (some (9221120237041090560, 16)) else ((word_Parts.f k x0).bind fun bt272 => ((bits_Len64.f k bt272.1).bind fun t274 => (if (Go.bits .and .i64 (wrap64 (bt272.2 - (wrap64 (127 - t274)))) 1) = 0 then ((wide_Wide_Left.f 0 bt272.1 (wrap64 (127 - t274))).bind fun bt275 => ((wide_Wide_Sqrt.f k bt275.1 bt275.2).bind fun bt277 => ((round_Round.f k false 0 bt277.1 (wrap64 (Int.tdiv (wrap64 (bt272.2 - (wrap64 (127 - t274)))) 2)) (!bt277.2)).bind fun bt279 => (some (bt279.1, bt279.2))))) else ((wide_Wide_Left.f 0 bt272.1 (wrap64 ((wrap64 (127 - t274)) - 1))).bind fun bt281 => ((wide_Wide_Sqrt.f k bt281.1 bt281.2).bind fun bt283 => ((round_Round.f k false 0 bt283.1 (wrap64 (Int.tdiv (wrap64 (bt272.2 - (wrap64 ((wrap64 (127 - t274)) - 1)))) 2)) (!bt283.2)).bind fun bt285 => (some (bt285.1, bt285.2))))))))))
def more_Sqrt.f (k : Nat) (a0 : Int) : Option (Int × Int) := (word_Kind.f k a0).bind fun t268 => (if t268 = 5 then ((word_Signals.f k a0).bind fun t269 => (if t269 = true then (some (9221120237041090560, 16)) else (some (9221120237041090560, 0)))) else ((word_Kind.f k a0).bind fun t270 => (if t270 = 1 then (more_Sqrt.j0 k a0 true) else (more_Sqrt.j0 k a0 (a0 == 9218868437227405312)))))
theorem more_Sqrt.mono_l : ∀ k, (∀ y0 y1, LeO (more_Sqrt.j0 k y0 y1) (more_Sqrt.j0 (k + 1) y0 y1))
 | 0 => fun _ _ r h => by simp [more_Sqrt.j0] at h
 | k + 1 => by
  have ih0 := more_Sqrt.mono_l k
  ·
   intro y0 y1
   unfold more_Sqrt.j0
   repeat' with_reducible first | apply ih0 | apply bits_Len64.mono | apply round_Round.mono | apply wide_Wide_Sqrt.mono | apply word_Kind.mono | apply word_Parts.mono | apply word_Signals.mono | exact LeO.refl _ | exact LeO.none _ | refine LeO.ite ?_ ?_ | refine LeO.bind ?_ (fun _ => ?_)
theorem more_Sqrt.mono : ∀ a0 k, LeO (more_Sqrt.f k a0) (more_Sqrt.f (k + 1) a0) := by
 intro a0 k
 have ih0 := more_Sqrt.mono_l k
 unfold more_Sqrt.f
 repeat' with_reducible first | apply ih0 | apply bits_Len64.mono | apply round_Round.mono | apply wide_Wide_Sqrt.mono | apply word_Kind.mono | apply word_Parts.mono | apply word_Signals.mono | exact LeO.refl _ | exact LeO.none _ | refine LeO.ite ?_ ?_ | refine LeO.bind ?_ (fun _ => ?_)
set_option maxHeartbeats 8000000 in
set_option maxRecDepth 100000 in
theorem more_Sqrt.calls (k : Nat) (a0 : Int) (r1 : Int) (r2 : Int) (w : World) (h : more_Sqrt.f k a0 = some (r1, r2)) :
  Calls Try.prog 13 #[.int .u64 a0] w fun e w' => e = .returned (.tuple #[.int .u64 r1, .int .u8 r2]) ∧ Below w.heap.size w w' := by
 have hu58 := Try.underlying58
 have HB := Aside0.mk (Below.refl w.heap.size w)
 have H : ((word_Kind.f k a0).bind fun t268 => (if t268 = 5 then ((word_Signals.f k a0).bind fun t269 => (if t269 = true then (some (9221120237041090560, 16)) else (some (9221120237041090560, 0)))) else ((word_Kind.f k a0).bind fun t270 => (if t270 = 1 then (more_Sqrt.j0 k a0 true) else (more_Sqrt.j0 k a0 (a0 == 9218868437227405312)))))) = some (r1, r2) := h
 clear h
 obtain ⟨t268, A20, H⟩ := Option.bind_eq_some_iff.mp H
 (try dsimp -simprocs only at H)
 have A2 := Aside0.mk A20
 clear A20
 by_cases c3 : t268 = 5
 ·
  rw [if_pos c3] at H
  have c3b0 : (t268 == 5) = true := beq_iff_eq.mpr c3
  have c3b1 : (t268 != 5) = false := bne_eq_false_iff_eq.mpr c3
  clear c3
  obtain ⟨t269, A40, H⟩ := Option.bind_eq_some_iff.mp H
  (try dsimp -simprocs only at H)
  have A4 := Aside0.mk A40
  clear A40
  by_cases c5 : t269 = true
  ·
   subst c5
   rw [if_pos rfl] at H
   simp only [Option.some.injEq, Prod.mk.injEq] at H
   obtain ⟨rfl, rfl⟩ := H
   go_enter Try.func13, Try.ntmps13
   go_wp2_with (first | ((with_reducible refine gate_callee (f := 25) rfl ?_); refine goesL_ (some 11) rfl rfl Try.func25 (by kernel_rfl) rfl #[.int .u64 a0] rfl ga ?_; (with_reducible refine (word_Kind.calls k a0 t268 _ A2.out).mono ?_); rintro e w' ⟨rfl, ⟨nd, rfl⟩⟩; refine ⟨_, rfl, ?_⟩) | ((with_reducible refine gate_callee (f := 26) rfl ?_); refine goesL_ (some 14) rfl rfl Try.func26 (by kernel_rfl) rfl #[.int .u64 a0] rfl ga ?_; (with_reducible refine (word_Signals.calls k a0 true _ A4.out).mono ?_); rintro e w' ⟨rfl, ⟨nd, rfl⟩⟩; refine ⟨_, rfl, ?_⟩))
   go_ret2
   exact ⟨er, bel⟩
  ·
   replace c5 := Bool.eq_false_iff.mpr c5
   subst c5
   rw [if_neg (show ¬ (false = true) by decide)] at H
   simp only [Option.some.injEq, Prod.mk.injEq] at H
   obtain ⟨rfl, rfl⟩ := H
   go_enter Try.func13, Try.ntmps13
   go_wp2_with (first | ((with_reducible refine gate_callee (f := 25) rfl ?_); refine goesL_ (some 11) rfl rfl Try.func25 (by kernel_rfl) rfl #[.int .u64 a0] rfl ga ?_; (with_reducible refine (word_Kind.calls k a0 t268 _ A2.out).mono ?_); rintro e w' ⟨rfl, ⟨nd, rfl⟩⟩; refine ⟨_, rfl, ?_⟩) | ((with_reducible refine gate_callee (f := 26) rfl ?_); refine goesL_ (some 14) rfl rfl Try.func26 (by kernel_rfl) rfl #[.int .u64 a0] rfl ga ?_; (with_reducible refine (word_Signals.calls k a0 false _ A4.out).mono ?_); rintro e w' ⟨rfl, ⟨nd, rfl⟩⟩; refine ⟨_, rfl, ?_⟩))
   go_ret2
   exact ⟨er, bel⟩
 ·
  rw [if_neg c3] at H
  have c3b0 : (t268 == 5) = false := beq_eq_false_iff_ne.mpr c3
  have c3b1 : (t268 != 5) = true := bne_iff_ne.mpr c3
  have HC6 := Aside0.mk H
  clear H
  go_enter Try.func13, Try.ntmps13
  go_upto_region 5 with (first | ((with_reducible refine gate_callee (f := 25) rfl ?_); refine goesL_ (some 11) rfl rfl Try.func25 (by kernel_rfl) rfl #[.int .u64 a0] rfl ga ?_; (with_reducible refine (word_Kind.calls k a0 t268 _ A2.out).mono ?_); rintro e w' ⟨rfl, ⟨nd, rfl⟩⟩; refine ⟨_, rfl, ?_⟩))
  (try simp only [Act.put, sa0, sa1, sa2])
  go_cut [15] (fun v15 wc => ∃ (kq : Nat) (x15_5 : Bool), v15 = .bool x15_5 ∧ Aside0 (more_Sqrt.j0 kq a0 x15_5 = some (r1, r2)) ∧ Aside0 (kq ≤ k) ∧ Aside0 (Below w.heap.size w wc))
  case first =>
   have H := HC6.out
   clear HC6
   obtain ⟨t270, A70, H⟩ := Option.bind_eq_some_iff.mp H
   (try dsimp -simprocs only at H)
   have A7 := Aside0.mk A70
   clear A70
   by_cases c8 : t270 = 1
   rotate_left
   ·
    rw [if_neg c8] at H
    have c8b0 : (t270 == 1) = false := beq_eq_false_iff_ne.mpr c8
    have c8b1 : (t270 != 1) = true := bne_iff_ne.mpr c8
    (first | rw [c8b0] | (simp only [i64_w, i32_w]; rw [c8b0]) | skip)
    have H' := Aside0.mk H
    clear H
    go_wp2_with (first | ((with_reducible refine gate_callee (f := 25) rfl ?_); refine goesL_ (some 17) rfl rfl Try.func25 (by kernel_rfl) rfl #[.int .u64 a0] rfl ga ?_; (with_reducible refine (word_Kind.calls k a0 t270 _ A7.out).mono ?_); rintro e w' ⟨rfl, ⟨nd, rfl⟩⟩; refine ⟨_, rfl, ?_⟩))
    go_meet
    case rel => exact ⟨_, ((a0 == 9218868437227405312)), (by first | rfl | (simp; done) | (simp [*]; done)), H', ⟨by first | omega | exact Nat.le_refl _⟩, ⟨bel⟩⟩
   rw [if_pos c8] at H
   have c8b0 : (t270 == 1) = true := beq_iff_eq.mpr c8
   have c8b1 : (t270 != 1) = false := bne_eq_false_iff_eq.mpr c8
   clear c8
   (first | rw [c8b0] | (simp only [i64_w, i32_w]; rw [c8b0]) | skip)
   have H' := Aside0.mk H
   clear H
   go_wp2_with (first | ((with_reducible refine gate_callee (f := 25) rfl ?_); refine goesL_ (some 17) rfl rfl Try.func25 (by kernel_rfl) rfl #[.int .u64 a0] rfl ga ?_; (with_reducible refine (word_Kind.calls k a0 t270 _ A7.out).mono ?_); rintro e w' ⟨rfl, ⟨nd, rfl⟩⟩; refine ⟨_, rfl, ?_⟩))
   go_meet
   case rel => exact ⟨_, (true), (by first | rfl | (simp; done) | (simp [*]; done)), H', ⟨by first | omega | exact Nat.le_refl _⟩, ⟨bel⟩⟩
  case rest =>
   clear HC6
   try clear c1
   try clear c2
   try clear p2
   try clear c3
   try clear c3b0
   try clear c3b1
   try clear c5
   try clear c8
   try clear c8b0
   try clear c8b1
   obtain ⟨kq, x15_5, rfl, HA, HJ5, HB⟩ := hcut
   cases kq with
   | zero => exact absurd HA.out (by simp [more_Sqrt.j0])
   | succ kj5 =>
    have H := HA.out
    clear HA
    simp only [more_Sqrt.j0] at H
    by_cases c9 : x15_5 = true
    ·
     subst c9
     rw [if_pos rfl] at H
     simp only [Option.some.injEq, Prod.mk.injEq] at H
     obtain ⟨rfl, rfl⟩ := H
     go_wp2
     go_ret2
     exact ⟨er, bel⟩
    ·
     replace c9 := Bool.eq_false_iff.mpr c9
     subst c9
     rw [if_neg (show ¬ (false = true) by decide)] at H
     obtain ⟨t271, A100, H⟩ := Option.bind_eq_some_iff.mp H
     (try dsimp -simprocs only at H)
     have A10 := Aside0.mk A100
     clear A100
     by_cases c11 : t271 = true
     ·
      subst c11
      rw [if_pos rfl] at H
      simp only [Option.some.injEq, Prod.mk.injEq] at H
      obtain ⟨rfl, rfl⟩ := H
      go_wp2_with (first | ((with_reducible refine gate_callee (f := 28) rfl ?_); refine goesL_ (some 26) rfl rfl Try.func28 (by kernel_rfl) rfl #[.int .u64 a0] rfl ga ?_; (with_reducible refine (word_Neg.calls a0 true _ A10.out).mono ?_); rintro e w' ⟨rfl, ⟨nd, rfl⟩⟩; refine ⟨_, rfl, ?_⟩))
      go_ret2
      exact ⟨er, bel⟩
     ·
      replace c11 := Bool.eq_false_iff.mpr c11
      subst c11
      rw [if_neg (show ¬ (false = true) by decide)] at H
      obtain ⟨⟨t272, t273⟩, A120, H⟩ := Option.bind_eq_some_iff.mp H
      (try dsimp -simprocs only at H)
      have A12 := Aside0.mk A120
      clear A120
      obtain ⟨t274, A130, H⟩ := Option.bind_eq_some_iff.mp H
      (try dsimp -simprocs only at H)
      have A13 := Aside0.mk A130
      clear A130
      by_cases c14 : (Go.bits .and .i64 (wrap64 (t273 - (wrap64 (127 - t274)))) 1) = 0
      ·
       rw [if_pos c14] at H
       have c14b0 : ((Go.bits .and .i64 (wrap64 (t273 - (wrap64 (127 - t274)))) 1) == 0) = true := beq_iff_eq.mpr c14
       have c14b1 : ((Go.bits .and .i64 (wrap64 (t273 - (wrap64 (127 - t274)))) 1) != 0) = false := bne_eq_false_iff_eq.mpr c14
       clear c14
       obtain ⟨⟨t275, t276⟩, A150, H⟩ := Option.bind_eq_some_iff.mp H
       (try dsimp -simprocs only at H)
       have A15 := Aside0.mk A150
       clear A150
       obtain ⟨⟨t277, t278⟩, A160, H⟩ := Option.bind_eq_some_iff.mp H
       (try dsimp -simprocs only at H)
       have A16 := Aside0.mk A160
       clear A160
       obtain ⟨⟨t279, t280⟩, A170, H⟩ := Option.bind_eq_some_iff.mp H
       (try dsimp -simprocs only at H)
       have A17 := Aside0.mk A170
       clear A170
       simp only [Option.some.injEq, Prod.mk.injEq] at H
       obtain ⟨rfl, rfl⟩ := H
       go_wp2_with (first | ((with_reducible refine gate_callee (f := 28) rfl ?_); refine goesL_ (some 26) rfl rfl Try.func28 (by kernel_rfl) rfl #[.int .u64 a0] rfl ga ?_; (with_reducible refine (word_Neg.calls a0 false _ A10.out).mono ?_); rintro e w' ⟨rfl, ⟨nd, rfl⟩⟩; refine ⟨_, rfl, ?_⟩) | ((with_reducible refine gate_callee (f := 24) rfl ?_); refine goesL_ (some 29) rfl rfl Try.func24 (by kernel_rfl) rfl #[.int .u64 a0] rfl ga ?_; (with_reducible refine (word_Parts.calls kj5 a0 t272 t273 _ A12.out).mono ?_); rintro e w' ⟨rfl, ⟨nd, rfl⟩⟩; refine ⟨_, rfl, ?_⟩) | ((with_reducible refine gate_callee (f := 32) rfl ?_); refine goesL_ (some 33) rfl rfl Try.func32 (by kernel_rfl) rfl #[.int .u64 t272] rfl ga ?_; (with_reducible refine (bits_Len64.calls kj5 t272 t274 _ A13.out).mono ?_); rintro e w' ⟨rfl, ⟨nd, rfl⟩⟩; refine ⟨_, rfl, ?_⟩) | ((with_reducible refine gate_callee (f := 33) rfl ?_); refine goesL_ (some 46) rfl rfl Try.func33 (by kernel_rfl) rfl #[.agg #[.int .u64 0, .int .u64 t272], .int .i64 (wrap64 (127 - t274))] rfl ga ?_; (with_reducible refine (wide_Wide_Left.calls 0 t272 (wrap64 (127 - t274)) t275 t276 _ A15.out).mono ?_); rintro e w18 ⟨rfl, hb⟩; refine ⟨_, rfl, ?_⟩; refine ax1 (below_step bel hb) ?_; clear HB; intro HB; (try clear hb)) | ((with_reducible refine gate_callee (f := 34) rfl ?_); refine goesL_ (some 47) rfl rfl Try.func34 (by kernel_rfl) rfl #[.agg #[.int .u64 t275, .int .u64 t276]] rfl ga ?_; (with_reducible refine (wide_Wide_Sqrt.calls kj5 t275 t276 t277 t278 _ A16.out).mono ?_); rintro e w19 ⟨rfl, hb⟩; refine ⟨_, rfl, ?_⟩; refine ax1 (below_step bel hb) ?_; clear HB; intro HB; (try clear hb)) | ((with_reducible refine gate_callee (f := 27) rfl ?_); refine goesL_ (some 58) rfl rfl Try.func27 (by kernel_rfl) rfl #[.bool false, .agg #[.int .u64 0, .int .u64 t277], .int .i64 (wrap64 (Int.tdiv (wrap64 (t273 - (wrap64 (127 - t274)))) 2)), .bool (!t278)] rfl ga ?_; (with_reducible refine (round_Round.calls kj5 false 0 t277 (wrap64 (Int.tdiv (wrap64 (t273 - (wrap64 (127 - t274)))) 2)) (!t278) t279 t280 _ A17.out).mono ?_); rintro e w20 ⟨rfl, hb⟩; refine ⟨_, rfl, ?_⟩; refine ax1 (below_step bel hb) ?_; clear HB; intro HB; (try clear hb)))
       go_ret2
       exact ⟨er, bel⟩
      ·
       rw [if_neg c14] at H
       have c14b0 : ((Go.bits .and .i64 (wrap64 (t273 - (wrap64 (127 - t274)))) 1) == 0) = false := beq_eq_false_iff_ne.mpr c14
       have c14b1 : ((Go.bits .and .i64 (wrap64 (t273 - (wrap64 (127 - t274)))) 1) != 0) = true := bne_iff_ne.mpr c14
       obtain ⟨⟨t281, t282⟩, A210, H⟩ := Option.bind_eq_some_iff.mp H
       (try dsimp -simprocs only at H)
       have A21 := Aside0.mk A210
       clear A210
       obtain ⟨⟨t283, t284⟩, A220, H⟩ := Option.bind_eq_some_iff.mp H
       (try dsimp -simprocs only at H)
       have A22 := Aside0.mk A220
       clear A220
       obtain ⟨⟨t285, t286⟩, A230, H⟩ := Option.bind_eq_some_iff.mp H
       (try dsimp -simprocs only at H)
       have A23 := Aside0.mk A230
       clear A230
       simp only [Option.some.injEq, Prod.mk.injEq] at H
       obtain ⟨rfl, rfl⟩ := H
       go_wp2_with (first | ((with_reducible refine gate_callee (f := 28) rfl ?_); refine goesL_ (some 26) rfl rfl Try.func28 (by kernel_rfl) rfl #[.int .u64 a0] rfl ga ?_; (with_reducible refine (word_Neg.calls a0 false _ A10.out).mono ?_); rintro e w' ⟨rfl, ⟨nd, rfl⟩⟩; refine ⟨_, rfl, ?_⟩) | ((with_reducible refine gate_callee (f := 24) rfl ?_); refine goesL_ (some 29) rfl rfl Try.func24 (by kernel_rfl) rfl #[.int .u64 a0] rfl ga ?_; (with_reducible refine (word_Parts.calls kj5 a0 t272 t273 _ A12.out).mono ?_); rintro e w' ⟨rfl, ⟨nd, rfl⟩⟩; refine ⟨_, rfl, ?_⟩) | ((with_reducible refine gate_callee (f := 32) rfl ?_); refine goesL_ (some 33) rfl rfl Try.func32 (by kernel_rfl) rfl #[.int .u64 t272] rfl ga ?_; (with_reducible refine (bits_Len64.calls kj5 t272 t274 _ A13.out).mono ?_); rintro e w' ⟨rfl, ⟨nd, rfl⟩⟩; refine ⟨_, rfl, ?_⟩) | ((with_reducible refine gate_callee (f := 33) rfl ?_); refine goesL_ (some 46) rfl rfl Try.func33 (by kernel_rfl) rfl #[.agg #[.int .u64 0, .int .u64 t272], .int .i64 (wrap64 ((wrap64 (127 - t274)) - 1))] rfl ga ?_; (with_reducible refine (wide_Wide_Left.calls 0 t272 (wrap64 ((wrap64 (127 - t274)) - 1)) t281 t282 _ A21.out).mono ?_); rintro e w24 ⟨rfl, hb⟩; refine ⟨_, rfl, ?_⟩; refine ax1 (below_step bel hb) ?_; clear HB; intro HB; (try clear hb)) | ((with_reducible refine gate_callee (f := 34) rfl ?_); refine goesL_ (some 47) rfl rfl Try.func34 (by kernel_rfl) rfl #[.agg #[.int .u64 t281, .int .u64 t282]] rfl ga ?_; (with_reducible refine (wide_Wide_Sqrt.calls kj5 t281 t282 t283 t284 _ A22.out).mono ?_); rintro e w25 ⟨rfl, hb⟩; refine ⟨_, rfl, ?_⟩; refine ax1 (below_step bel hb) ?_; clear HB; intro HB; (try clear hb)) | ((with_reducible refine gate_callee (f := 27) rfl ?_); refine goesL_ (some 58) rfl rfl Try.func27 (by kernel_rfl) rfl #[.bool false, .agg #[.int .u64 0, .int .u64 t283], .int .i64 (wrap64 (Int.tdiv (wrap64 (t273 - (wrap64 ((wrap64 (127 - t274)) - 1)))) 2)), .bool (!t284)] rfl ga ?_; (with_reducible refine (round_Round.calls kj5 false 0 t283 (wrap64 (Int.tdiv (wrap64 (t273 - (wrap64 ((wrap64 (127 - t274)) - 1)))) 2)) (!t284) t285 t286 _ A23.out).mono ?_); rintro e w26 ⟨rfl, hb⟩; refine ⟨_, rfl, ?_⟩; refine ax1 (below_step bel hb) ?_; clear HB; intro HB; (try clear hb)))
       go_ret2
       exact ⟨er, bel⟩

/-! ### vec_Unit: function 22 -/
def vec_Unit.l0 : Nat → Int → List Int → List Int → Int → Int → Option (List Int)
 | 0, _, _, _, _, _ => none
 | k + 1, x1, x5, x13, x14, x15 => if x15 < x14 then (if 0 ≤ x15 then (if x15 < (x13.length : Int) then ((more_Scale.f k (rd x13 x15) (wrap64 (-x1))).bind fun bt288 => (if x5.length < 17592186044416 then (vec_Unit.l0 k x1 (x5 ++ [bt288.1]) x13 x14 (wrap64 (x15 + 1))) else (none))) else (none)) else (none)) else (some x5)
def vec_Unit.f (k : Nat) (l0 : List Int) (a1 : Int) : Option (List Int) := vec_Unit.l0 k (mx (-20000) (mn a1 20000)) ([] : List Int) l0 (l0.length : Int) 0
theorem vec_Unit.mono_l : ∀ k, (∀ y0 y1 y2 y3 y4, LeO (vec_Unit.l0 k y0 y1 y2 y3 y4) (vec_Unit.l0 (k + 1) y0 y1 y2 y3 y4))
 | 0 => fun _ _ _ _ _ r h => by simp [vec_Unit.l0] at h
 | k + 1 => by
  have ih0 := vec_Unit.mono_l k
  ·
   intro y0 y1 y2 y3 y4
   unfold vec_Unit.l0
   repeat' with_reducible first | apply ih0 | apply more_Scale.mono | exact LeO.refl _ | exact LeO.none _ | refine LeO.ite ?_ ?_ | refine LeO.bind ?_ (fun _ => ?_)
theorem vec_Unit.mono : ∀ a0 a1 k, LeO (vec_Unit.f k a0 a1) (vec_Unit.f (k + 1) a0 a1) := by
 intro a0 a1 k
 have ih0 := vec_Unit.mono_l k
 unfold vec_Unit.f
 repeat' with_reducible first | apply ih0 | apply more_Scale.mono | exact LeO.refl _ | exact LeO.none _ | refine LeO.ite ?_ ?_ | refine LeO.bind ?_ (fun _ => ?_)
set_option maxHeartbeats 8000000 in
set_option maxRecDepth 100000 in
theorem vec_Unit.calls (k : Nat) (A0 : Option Addr) (c0 : Nat) (l0 : List Int) (a1 : Int) (r : List Int) (w : World) (hr0 : Kd.C (Kd.int .u64) w A0 l0.length l0) (hc0 : l0.length ≤ c0) (h : vec_Unit.f k l0 a1 = some r) :
  Calls Try.prog 22 #[.slice A0 l0.length c0, .int .i64 a1] w fun e w' => ∃ v0_ : Value, e = .returned (v0_) ∧ Kd.R (Kd.int .u64) 28 w' w.heap.size (fun _ => True) v0_ r ∧ Below w.heap.size w w' := by
 have HR0 := Aside0.mk hr0
 have HC0 := Aside0.mk hc0
 clear hr0 hc0
 have HB := Aside0.mk (Below.refl w.heap.size w)
 have H : (vec_Unit.l0 k (mx (-20000) (mn a1 20000)) ([] : List Int) l0 (l0.length : Int) 0) = some r := h
 clear h
 obtain ⟨ji3, hji3⟩ : ∃ j_ : Int, (mn a1 20000) = j_ := ⟨_, rfl⟩
 replace H : (vec_Unit.l0 k (mx (-20000) (ji3)) ([] : List Int) l0 (l0.length : Int) 0) = some r := by first | (rw [hji3] at H; exact H) | (simp only [hji3] at H ⊢; exact H)
 (try (have hji3h : ji3 ≤ 20000 := by (rw [← hji3]; unfold mn; (repeat' split) <;> omega)))
 (try (have hji3g : ji3 ≤ 64 := by omega))
 have hji3_ : (if 20000 < a1 then 20000 else a1) = ji3 := hji3
 obtain ⟨ji4, hji4⟩ : ∃ j_ : Int, (mx (-20000) (ji3)) = j_ := ⟨_, rfl⟩
 replace H : (vec_Unit.l0 k ji4 ([] : List Int) l0 (l0.length : Int) 0) = some r := by first | (rw [hji4] at H; exact H) | (simp only [hji4] at H ⊢; exact H)
 have hji4_ : (if (-20000) < (ji3) then (ji3) else (-20000)) = ji4 := hji4
 have H' := Aside0.mk H
 clear H
 go_enter Try.func22, Try.ntmps22
 go_wp2
 go_loopg [5, 15] k (fun kq v5 v15 w' => ∃ (x5_1 : List Int) (x15_1 : Int), v15 = .int .i64 x15_1 ∧ Aside0 (vec_Unit.l0 kq ji4 x5_1 l0 (l0.length : Int) x15_1 = some r) ∧ Aside0 (kq ≤ k) ∧ Aside0 (Kd.R (Kd.int .u64) 28 w' w.heap.size (fun _ => True) v5 x5_1) ∧ Aside0 (Below w.heap.size w w'))
 case atStart => exact ⟨(([] : List Int)), (0), (by first | rfl | (simp; done) | (simp [*]; done)), H', ⟨Nat.le_refl _⟩, ⟨by first | exact Kd.R_nil _ _ _ _ _ | exact Kd.N_nil _ _ _ _ _ | exact Kd.V_nil _ _ _ _ _ | exact Kd.Q_nil _ _ _ _ _ | exact Kd.S_nil _ _ _ _ _⟩, ⟨bel⟩⟩
 case round =>
  clear H'
  try clear c2
  try clear p2
  obtain ⟨x5_1, x15_1, rfl, HA, HK1, HO_5, HB⟩ := hrel
  cases gk with
  | zero => exact absurd HA.out (by simp [vec_Unit.l0])
  | succ k1 =>
   have H := HA.out
   clear HA
   simp only [vec_Unit.l0] at H
   by_cases c5 : x15_1 < (l0.length : Int)
   rotate_left
   ·
    rw [if_neg c5] at H
    have c5b0 : decide (x15_1 < (l0.length : Int)) = false := decide_eq_false c5
    clear c5
    obtain rfl := Option.some.inj H
    go_wp2
    go_ret
    exact ⟨_, by first | rfl | (simp [errW_none, errW_some] <;> rfl) | (simp only [← hji3, ← hji4]; first | rfl | (simp [errW_none, errW_some] <;> rfl)) | (simp [*, errW_none, errW_some] <;> rfl), kr HO_5, bel⟩

   rw [if_pos c5] at H
   have c5b0 : decide (x15_1 < (l0.length : Int)) = true := decide_eq_true c5
   clear c5
   by_cases c6 : 0 ≤ x15_1
   rotate_left
   ·
    rw [if_neg c6] at H
    exact absurd H (by simp)
   rw [if_pos c6] at H
   have c6b0 : decide (0 ≤ x15_1) = true := decide_eq_true c6
   clear c6
   by_cases c7 : x15_1 < (l0.length : Int)
   rotate_left
   ·
    rw [if_neg c7] at H
    exact absurd H (by simp)
   rw [if_pos c7] at H
   have c7b0 : decide (x15_1 < (l0.length : Int)) = true := decide_eq_true c7
   clear c7
   obtain ⟨⟨t288, t289⟩, A80, H⟩ := Option.bind_eq_some_iff.mp H
   (try dsimp -simprocs only at H)
   have A8 := Aside0.mk A80
   clear A80
   by_cases c9 : x5_1.length < 17592186044416
   rotate_left
   ·
    rw [if_neg c9] at H
    exact absurd H (by simp)
   rw [if_pos c9] at H
   have LMc9 := Aside0.mk c9
   clear c9
   obtain ⟨y290, hy290⟩ : ∃ y_ : List Int, y_ = (x5_1 ++ [t288]) := ⟨_, rfl⟩
   replace H : (vec_Unit.l0 k1 ji4 y290 l0 (l0.length : Int) (wrap64 (x15_1 + 1))) = some r := by first | (rw [hy290]; with_reducible exact H) | (have H2_ := (Option.bind_some _ _).symm.trans H; rw [hy290]; with_reducible exact H2_) | (have H2_ := (Option.bind_some _ _).symm.trans H; with_reducible exact H2_) | with_reducible exact H | (rw [hy290]; exact H) | exact H
   have Ny290 := Aside0.mk hy290
   clear hy290
   have H' := Aside0.mk H
   clear H
   have p287 : 0 ≤ (x15_1 : Int) := of_decide_eq_true (by first | (with_reducible assumption) | assumption)
   have q287 : x15_1 < (l0.length : Int) := of_decide_eq_true (by first | (with_reducible assumption) | assumption)
   obtain ⟨ad287, e287, hx287_0⟩ := Kd.at_int HR0.out x15_1 p287 q287
   cases e287
   replace hx287_0 := (HB.out.cell (World.block_lt_of_cell? w _ hx287_0)).trans hx287_0
   replace p287 := eq_true p287
   replace q287 := eq_true q287
   have hw_ : wrap64 (-ji4) = -ji4 := by
    have h1 := hji3
    have h2 := hji4
    unfold mx at h2
    unfold mn at h1
    unfold wrap64
    grind
   have A8w := Aside0.mk (by have h_ := A8.out; rw [hw_] at h_; exact h_)
   go_wp2_with (first | ((with_reducible refine gate_callee (f := 10) rfl ?_); refine goesL_ (some 23) rfl rfl Try.func10 (by kernel_rfl) rfl #[.int .u64 (rd l0 x15_1), .int .i64 (-ji4)] rfl (by (try simp only [List.map_toArray, List.map_cons, List.map_nil]); first | done | (simp only [hji4]; rfl) | rfl | (simp only [List.length_drop, List.length_take]; rfl)) ?_; (with_reducible refine (more_Scale.calls k1 (rd l0 x15_1) (-ji4) t288 t289 _ A8w.out).mono ?_); rintro e w10 ⟨rfl, hb⟩; refine ⟨_, rfl, ?_⟩; refine ax2 (Kd.R_below (kr HO_5) hb) (below_step bel hb) ?_; clear HO_5; clear HB; intro HO_5 HB; (try clear hb)) | ((with_reducible refine gate_builtin (b := .append) (xs := #[.tmp 26, .tmp 28]) rfl ?_); at_builtin; refine Kd.R_append (Kd.int .u64) (w0 := w) w.heap.size rfl (.tmp 26) (.tmp 28) 22 28 (.int .u64 0) 8 rfl Try.underlying22 info28 rfl (by decide) (by omega) u5 x5_1 t288 [.int .u64 t288] (fun _ => True) (fun _ => False) rfl rfl ?aP (fun _ hk => hk.elim) ?aF ?aO ?aB ?aS ?aL ?_; (case aP => exact rfl); (case aB => exact bel); (case aF => exact (fun _ _ => trivial)); (case aO => exact (kr HO_5)); (case aS => exact (below_size bel)); (case aL => have := LMc9.out; omega); intro v291 w11 ho hb hg hat; rw [← Ny290.out] at ho; refine ax2 hb ho ?_; clear HB; clear HO_5; intro HB HO292; clear ho hb hg hat))
   go_roundg k1
   case measure => have := HK1.out; omega
   case rel => exact ⟨(y290), (wrap64 (x15_1 + 1)), (by first | rfl | (simp; done) | (simp [*]; done)), H', ⟨by have := HK1.out; omega⟩, ⟨kr HO292⟩, ⟨bel⟩⟩
/-! ### soft_Calc_Note_nil: function 23 -/
def soft_Calc_Note_nil.f  (a1 : Int) (a2 : Int) : Option (Int) := (soft_Calc_note_nil.f a1 a2).bind fun t295 => (some t295)
set_option maxHeartbeats 8000000 in
set_option maxRecDepth 100000 in
theorem soft_Calc_Note_nil.calls  (a1 : Int) (a2 : Int) (r : Int) (w : World) (h : soft_Calc_Note_nil.f a1 a2 = some r) :
  Calls Try.prog 23 #[.pointer none, .int .u64 a1, .int .u8 a2] w fun e w' => e = .returned (.int .u64 r) ∧ Drawn0 w w' := by
 have H : ((soft_Calc_note_nil.f a1 a2).bind fun t295 => (some t295)) = some r := h
 clear h
 obtain ⟨t295, A40, H⟩ := Option.bind_eq_some_iff.mp H
 (try dsimp -simprocs only at H)
 have A4 := Aside0.mk A40
 clear A40
 obtain rfl := Option.some.inj H
 go_enter Try.func23, Try.ntmps23
 go_wp2_with (first | ((with_reducible refine gate_callee (f := 29) rfl ?_); refine goesL_ (some 10) rfl rfl Try.func29 (by kernel_rfl) rfl #[.pointer none, .int .u64 a1, .int .u8 a2] rfl ga ?_; (with_reducible refine (soft_Calc_note_nil.calls  a1 a2 t295 _ A4.out).mono ?_); rintro e w' ⟨rfl, ⟨nd, rfl⟩⟩; refine ⟨_, rfl, ?_⟩))
 go_ret
 exact ⟨by first | rfl | (simp; done) | (simp [*]; done), by repeat (first | exact Drawn0.refl _ | apply Drawn0.step)⟩

end Go.Proofs.Ytkkfghecmhmdpaa.F
