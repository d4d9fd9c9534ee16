-- Written by a program of this seat's session (mkprint), out of the translation.
import Derived.Test.YtnjobojkoaknpaaShort
import Derived.Test.YtnjobojkoaknpaaFx0
import Derived.Test.YtnjobojkoaknpaaFx2
import Derived.Test.YtnjobojkoaknpaaFx4
import Derived.Test.YtnjobojkoaknpaaFx5
import Derived.Test.YtnjobojkoaknpaaFx7
namespace Go.Proofs.Ytnjobojkoaknpaa.F
open Go.RowKit Go.Proofs.YtnjobojkoaknpaaW.PrintWords Go.Proofs.YtnjobojkoaknpaaW.PrintLast Go.Proofs.YtnjobojkoaknpaaW.PrintMore
attribute [local go_sem] max2_int min2_int max_two min_two max_three min_three max_four min_four   -- for this text's walks alone
set_option linter.unusedVariables false
set_option linter.unusedSimpArgs false

/-! ### soft_Div: function 33 -/
mutual
def soft_Div.j0 : Nat → Int → Int → Bool → Int → Int → Bool → Option (Int × Int)
 | 0, _, _, _, _, _, _ => none
 | k + 1, x0, x1, x9, x10, x11, x42 => if x42 = true then (some (9221120237041090560, 16)) else (if x10 = 4 then ((word_Make.f x9 2047 0).bind fun t266 => (some (t266, 0))) else (if x11 = 4 then (soft_Div.j1 k x0 x1 x9 x11 true) else (soft_Div.j1 k x0 x1 x9 x11 (x10 == 1))))
def soft_Div.j1 : Nat → Int → Int → Bool → Int → Bool → Option (Int × Int)
 | 0, _, _, _, _, _ => none
 | k + 1, x0, x1, x9, x11, x62 => if x62 = true then ((word_Make.f x9 0 0).bind fun t267 => (some (t267, 0))) else (if x11 = 1 then ((word_Make.f x9 2047 0).bind fun t268 => (some (t268, 8))) else ((word_Parts.f k x0).bind fun bt269 => ((word_Parts.f k x1).bind fun bt271 => ((wide_Wide_Len.f k 0 bt269.1).bind fun t273 => ((wide_Wide_Len.f k 0 bt271.1).bind fun t274 => (if 0 ≤ (wrap64 ((wrap64 (53 - t273)) + 10)) then (if 0 ≤ (wrap64 (64 - t274)) then ((wide_Wide_Div.f k (shl .u64 bt269.1 (wrap64 ((wrap64 (53 - t273)) + 10))) 0 (shl .u64 bt271.1 (wrap64 (64 - t274)))).bind fun bt276 => ((round_Round.f k x9 0 bt276.1 (wrap64 ((wrap64 ((wrap64 ((wrap64 (bt269.2 - (wrap64 (53 - t273)))) - 10)) - 64)) - (wrap64 (bt271.2 - (wrap64 (64 - t274)))))) (bt276.2.1 != 0)).bind fun bt279 => (some (bt279.1, bt279.2)))) else (none)) else (none)))))))
end
def soft_Div.f (k : Nat) (a0 : Int) (a1 : Int) : Option (Int × Int) := (soft_nan.f k (([a0, a1] : List Int))).bind fun bt259 => (if bt259.2.2 = true then (some (bt259.1, bt259.2.1)) else ((word_Neg.f a0).bind fun t262 => ((word_Neg.f a1).bind fun t263 => ((word_Kind.f k a0).bind fun t264 => ((word_Kind.f k a1).bind fun t265 => (if t264 = 4 then (if t265 = 4 then (soft_Div.j0 k a0 a1 (t262 != t263) t264 t265 true) else (if t264 = 1 then (soft_Div.j0 k a0 a1 (t262 != t263) t264 t265 (t265 == 1)) else (soft_Div.j0 k a0 a1 (t262 != t263) t264 t265 false))) else (if t264 = 1 then (soft_Div.j0 k a0 a1 (t262 != t263) t264 t265 (t265 == 1)) else (soft_Div.j0 k a0 a1 (t262 != t263) t264 t265 false))))))))
theorem soft_Div.mono_l : ∀ k, (∀ y0 y1 y2 y3 y4 y5, LeO (soft_Div.j0 k y0 y1 y2 y3 y4 y5) (soft_Div.j0 (k + 1) y0 y1 y2 y3 y4 y5)) ∧ (∀ y0 y1 y2 y3 y4, LeO (soft_Div.j1 k y0 y1 y2 y3 y4) (soft_Div.j1 (k + 1) y0 y1 y2 y3 y4))
 | 0 => ⟨fun _ _ _ _ _ _ r h => by simp [soft_Div.j0] at h, fun _ _ _ _ _ r h => by simp [soft_Div.j1] at h⟩
 | k + 1 => by
  obtain ⟨ih0, ih1⟩ := soft_Div.mono_l k
  refine ⟨?_, ?_⟩ <;> intros <;> (first | unfold soft_Div.j0 | unfold soft_Div.j1) <;>
   repeat' with_reducible first | apply ih0 | apply ih1 | apply round_Round.mono | apply soft_nan.mono | apply wide_Wide_Div.mono | apply wide_Wide_Len.mono | apply word_Kind.mono | apply word_Parts.mono | exact LeO.refl _ | exact LeO.none _ | refine LeO.ite ?_ ?_ | refine LeO.bind ?_ (fun _ => ?_)
theorem soft_Div.mono : ∀ a0 a1 k, LeO (soft_Div.f k a0 a1) (soft_Div.f (k + 1) a0 a1) := by
 intro a0 a1 k
 obtain ⟨ih0, ih1⟩ := soft_Div.mono_l k
 unfold soft_Div.f
 repeat' with_reducible first | apply ih0 | apply ih1 | apply round_Round.mono | apply soft_nan.mono | apply wide_Wide_Div.mono | apply wide_Wide_Len.mono | apply word_Kind.mono | apply word_Parts.mono | exact LeO.refl _ | exact LeO.none _ | refine LeO.ite ?_ ?_ | refine LeO.bind ?_ (fun _ => ?_)
def soft_Div.T18 : Bool × List (List Nat × List Nat) := (true, [([], []), ([], []), ([], []), ([1, 2], [1, 2]), ([0, 3], [0, 3]), ([4], [4]), ([5], [5]), ([5], [5]), ([5], [5]), ([6, 4, 0, 1, 2, 3, 4, 5, 6], [6]), ([7, 9, 0, 1, 2, 3, 4, 5, 6, 7, 9], [7]), ([8, 10, 0, 1, 2, 3, 4, 5, 6, 7, 8, 9, 10], [8])])
def soft_Div.B18 : List Nat := [0, 0, 0, 6, 15, 31, 63, 63, 63, 127, 767, 2047]
theorem soft_Div.tab18 : rtab .any (opsOf Try.f33 18) = soft_Div.T18 := by kernel_rfl
theorem soft_Div.bits18 : waitsOk soft_Div.T18.2 soft_Div.B18 = true := by kernel_rfl
set_option maxHeartbeats 8000000 in
set_option maxRecDepth 100000 in
theorem soft_Div.calls (k : Nat) (a0 : Int) (a1 : Int) (r1 : Int) (r2 : Int) (w : World) (h : soft_Div.f k a0 a1 = some (r1, r2)) :
  Calls Try.prog 33 #[.int .u64 a0, .int .u64 a1] w fun e w' => e = .returned (.tuple #[.int .u64 r1, .int .u8 r2]) ∧ Below w.heap.size w w' := by
 have hu67 := Try.underlying67
 have HB := Aside0.mk (Below.refl w.heap.size w)
 have H : ((soft_nan.f k (([a0, a1] : List Int))).bind fun bt259 => (if bt259.2.2 = true then (some (bt259.1, bt259.2.1)) else ((word_Neg.f a0).bind fun t262 => ((word_Neg.f a1).bind fun t263 => ((word_Kind.f k a0).bind fun t264 => ((word_Kind.f k a1).bind fun t265 => (if t264 = 4 then (if t265 = 4 then (soft_Div.j0 k a0 a1 (t262 != t263) t264 t265 true) else (if t264 = 1 then (soft_Div.j0 k a0 a1 (t262 != t263) t264 t265 (t265 == 1)) else (soft_Div.j0 k a0 a1 (t262 != t263) t264 t265 false))) else (if t264 = 1 then (soft_Div.j0 k a0 a1 (t262 != t263) t264 t265 (t265 == 1)) else (soft_Div.j0 k a0 a1 (t262 != t263) t264 t265 false))))))))) = some (r1, r2) := h
 clear h
 obtain ⟨y256, hy256⟩ : ∃ y_ : List Int, y_ = (([a0, a1] : List Int)) := ⟨_, rfl⟩
 replace H : ((soft_nan.f k y256).bind fun bt259 => (if bt259.2.2 = true then (some (bt259.1, bt259.2.1)) else ((word_Neg.f a0).bind fun t262 => ((word_Neg.f a1).bind fun t263 => ((word_Kind.f k a0).bind fun t264 => ((word_Kind.f k a1).bind fun t265 => (if t264 = 4 then (if t265 = 4 then (soft_Div.j0 k a0 a1 (t262 != t263) t264 t265 true) else (if t264 = 1 then (soft_Div.j0 k a0 a1 (t262 != t263) t264 t265 (t265 == 1)) else (soft_Div.j0 k a0 a1 (t262 != t263) t264 t265 false))) else (if t264 = 1 then (soft_Div.j0 k a0 a1 (t262 != t263) t264 t265 (t265 == 1)) else (soft_Div.j0 k a0 a1 (t262 != t263) t264 t265 false))))))))) = some (r1, r2) := by first | (rw [hy256]; with_reducible exact H) | (have H2_ := (Option.bind_some _ _).symm.trans H; rw [hy256]; with_reducible exact H2_) | (have H2_ := (Option.bind_some _ _).symm.trans H; with_reducible exact H2_) | with_reducible exact H | (rw [hy256]; exact H) | exact H
 have Ny256 := Aside0.mk hy256
 clear hy256
 obtain ⟨⟨t259, t260, t261⟩, A30, H⟩ := Option.bind_eq_some_iff.mp H
 (try dsimp -simprocs only at H)
 have A3 := Aside0.mk A30
 clear A30
 by_cases c4 : t261 = true
 ·
  subst c4
  rw [if_pos rfl] at H
  simp only [Option.some.injEq, Prod.mk.injEq] at H
  obtain ⟨rfl, rfl⟩ := H
  go_enter Try.func33, Try.ntmps33
  go_wp2_with (first | ((with_reducible refine gate_dst (N := 25) rfl ?_); refine Kd.R_lit (Kd.int .u64) _ 35 ?hg (N := 25) ?hd (xs := ([a0, a1] : List Int)) (inner := [.int .u64 a0, .int .u64 a1]) (ok := fun _ => True) (okp := fun _ => True) ?hr ?hp (fun _ hk => hk) trivial (Below.refl _ _) (Nat.le_refl _) (by simp) ?_; (case hd => rfl); (case hg => rfl); (case hr => first | (go_simp; done) | (go_simp; rfl)); (case hp => exact (Reps.one (show Kd.M (Kd.int .u64) _ _ _ a0 [.int .u64 a0] from rfl) (Reps.one (show Kd.M (Kd.int .u64) _ _ _ a1 [.int .u64 a1] from rfl) (Reps.none _ _)))); intro v257 w5 ho6 hb hg_ hnew_; clear hg_ hnew_; (first | rw [← Ny256.out] at ho6 | (simp only [Int.reduceToNat] at ho6; rw [← Ny256.out] at ho6)); refine ax2 (Kd.R_lower ho6 (below_size bel)) (below_step bel hb) ?_; clear HB; intro HO258 HB; clear hb ho6; obtain ⟨Ao7, co7, eo7⟩ := Kd.R_slice HO258.out; subst eo7) | ((with_reducible refine gate_callee (f := 45) rfl ?_); refine goesL_ (some 26) rfl rfl Try.func45 (by kernel_rfl) rfl #[.slice Ao7 y256.length co7] rfl ga ?_; (with_reducible refine (soft_nan.calls k _ _ y256 t259 t260 true _ ?side1 ?side2 A3.out).mono ?_); (case side1 => exact ks HO258); (case side2 => exact (Kd.R_reads' HO258.out).2.1); rintro e w' ⟨rfl, ⟨nd, rfl⟩⟩; refine ⟨_, rfl, ?_⟩))
  go_ret2
  exact ⟨er, bel⟩
 ·
  replace c4 := Bool.eq_false_iff.mpr c4
  subst c4
  rw [if_neg (show ¬ (false = true) by decide)] at H
  obtain ⟨t262, A80, H⟩ := Option.bind_eq_some_iff.mp H
  (try dsimp -simprocs only at H)
  have A8 := Aside0.mk A80
  clear A80
  obtain ⟨t263, A90, H⟩ := Option.bind_eq_some_iff.mp H
  (try dsimp -simprocs only at H)
  have A9 := Aside0.mk A90
  clear A90
  obtain ⟨t264, A100, H⟩ := Option.bind_eq_some_iff.mp H
  (try dsimp -simprocs only at H)
  have A10 := Aside0.mk A100
  clear A100
  obtain ⟨t265, A110, H⟩ := Option.bind_eq_some_iff.mp H
  (try dsimp -simprocs only at H)
  have A11 := Aside0.mk A110
  clear A110
  have HC12 := Aside0.mk H
  clear H
  go_enter Try.func33, Try.ntmps33
  go_upto_region 6 with (first | ((with_reducible refine gate_dst (N := 25) rfl ?_); refine Kd.R_lit (Kd.int .u64) _ 35 ?hg (N := 25) ?hd (xs := ([a0, a1] : List Int)) (inner := [.int .u64 a0, .int .u64 a1]) (ok := fun _ => True) (okp := fun _ => True) ?hr ?hp (fun _ hk => hk) trivial (Below.refl _ _) (Nat.le_refl _) (by simp) ?_; (case hd => rfl); (case hg => rfl); (case hr => first | (go_simp; done) | (go_simp; rfl)); (case hp => exact (Reps.one (show Kd.M (Kd.int .u64) _ _ _ a0 [.int .u64 a0] from rfl) (Reps.one (show Kd.M (Kd.int .u64) _ _ _ a1 [.int .u64 a1] from rfl) (Reps.none _ _)))); intro v257 w13 ho14 hb hg_ hnew_; clear hg_ hnew_; (first | rw [← Ny256.out] at ho14 | (simp only [Int.reduceToNat] at ho14; rw [← Ny256.out] at ho14)); refine ax2 (Kd.R_lower ho14 (below_size bel)) (below_step bel hb) ?_; clear HB; intro HO258 HB; clear hb ho14; obtain ⟨Ao15, co15, eo15⟩ := Kd.R_slice HO258.out; subst eo15) | ((with_reducible refine gate_callee (f := 45) rfl ?_); refine goesL_ (some 26) rfl rfl Try.func45 (by kernel_rfl) rfl #[.slice Ao15 y256.length co15] rfl ga ?_; (with_reducible refine (soft_nan.calls k _ _ y256 t259 t260 false _ ?side1 ?side2 A3.out).mono ?_); (case side1 => exact ks HO258); (case side2 => exact (Kd.R_reads' HO258.out).2.1); rintro e w' ⟨rfl, ⟨nd, rfl⟩⟩; refine ⟨_, rfl, ?_⟩) | ((with_reducible refine gate_callee (f := 39) rfl ?_); refine goesL_ (some 34) rfl rfl Try.func39 (by kernel_rfl) rfl #[.int .u64 a0] rfl ga ?_; (with_reducible refine (word_Neg.calls a0 t262 _ A8.out).mono ?_); rintro e w' ⟨rfl, ⟨nd, rfl⟩⟩; refine ⟨_, rfl, ?_⟩) | ((with_reducible refine gate_callee (f := 39) rfl ?_); refine goesL_ (some 36) rfl rfl Try.func39 (by kernel_rfl) rfl #[.int .u64 a1] rfl ga ?_; (with_reducible refine (word_Neg.calls a1 t263 _ A9.out).mono ?_); rintro e w' ⟨rfl, ⟨nd, rfl⟩⟩; refine ⟨_, rfl, ?_⟩) | ((with_reducible refine gate_callee (f := 27) rfl ?_); refine goesL_ (some 39) rfl rfl Try.func27 (by kernel_rfl) rfl #[.int .u64 a0] rfl ga ?_; (with_reducible refine (word_Kind.calls k a0 t264 _ A10.out).mono ?_); rintro e w' ⟨rfl, ⟨nd, rfl⟩⟩; refine ⟨_, rfl, ?_⟩) | ((with_reducible refine gate_callee (f := 27) rfl ?_); refine goesL_ (some 41) rfl rfl Try.func27 (by kernel_rfl) rfl #[.int .u64 a1] rfl ga ?_; (with_reducible refine (word_Kind.calls k a1 t265 _ A11.out).mono ?_); rintro e w' ⟨rfl, ⟨nd, rfl⟩⟩; refine ⟨_, rfl, ?_⟩))
  (try simp only [Act.put, sa0, sa1, sa2])
  go_cut [9, 42] (fun v9 v42 wc => ∃ (kq : Nat) (x9_11 : Bool) (x42_11 : Bool), v9 = .bool x9_11 ∧ v42 = .bool x42_11 ∧ Aside0 (soft_Div.j0 kq a0 a1 x9_11 t264 t265 x42_11 = some (r1, r2)) ∧ Aside0 (kq ≤ k) ∧ Aside0 (Below w.heap.size w wc))
  case first =>
   have H := HC12.out
   clear HC12
   by_cases c16 : t264 = 4
   ·
    rw [if_pos c16] at H
    have c16b0 : (t264 == 4) = true := beq_iff_eq.mpr c16
    have c16b1 : (t264 != 4) = false := bne_eq_false_iff_eq.mpr c16
    clear c16
    (first | rw [c16b0] | (simp only [i64_w, i32_w]; rw [c16b0]) | skip)
    by_cases c17 : t265 = 4
    ·
     rw [if_pos c17] at H
     have c17b0 : (t265 == 4) = true := beq_iff_eq.mpr c17
     have c17b1 : (t265 != 4) = false := bne_eq_false_iff_eq.mpr c17
     clear c17
     have H' := Aside0.mk H
     clear H
     go_wp2
     go_meet
     case rel => exact ⟨_, ((t262 != t263)), (true), (by first | rfl | (simp; done) | (simp [*]; done)), (by first | rfl | (simp; done) | (simp [*]; done)), H', ⟨by first | omega | exact Nat.le_refl _⟩, ⟨bel⟩⟩
    ·
     rw [if_neg c17] at H
     have c17b0 : (t265 == 4) = false := beq_eq_false_iff_ne.mpr c17
     have c17b1 : (t265 != 4) = true := bne_iff_ne.mpr c17
     by_cases c18 : t264 = 1
     rotate_left
     ·
      rw [if_neg c18] at H
      have c18b0 : (t264 == 1) = false := beq_eq_false_iff_ne.mpr c18
      have c18b1 : (t264 != 1) = true := bne_iff_ne.mpr c18
      have H' := Aside0.mk H
      clear H
      go_wp2
      go_meet
      case rel => exact ⟨_, ((t262 != t263)), (false), (by first | rfl | (simp; done) | (simp [*]; done)), (by first | rfl | (simp; done) | (simp [*]; done)), H', ⟨by first | omega | exact Nat.le_refl _⟩, ⟨bel⟩⟩
     rw [if_pos c18] at H
     have c18b0 : (t264 == 1) = true := beq_iff_eq.mpr c18
     have c18b1 : (t264 != 1) = false := bne_eq_false_iff_eq.mpr c18
     clear c18
     have H' := Aside0.mk H
     clear H
     go_wp2
     go_meet
     case rel => exact ⟨_, ((t262 != t263)), ((t265 == 1)), (by first | rfl | (simp; done) | (simp [*]; done)), (by first | rfl | (simp; done) | (simp [*]; done)), H', ⟨by first | omega | exact Nat.le_refl _⟩, ⟨bel⟩⟩
   ·
    rw [if_neg c16] at H
    have c16b0 : (t264 == 4) = false := beq_eq_false_iff_ne.mpr c16
    have c16b1 : (t264 != 4) = true := bne_iff_ne.mpr c16
    (first | rw [c16b0] | (simp only [i64_w, i32_w]; rw [c16b0]) | skip)
    by_cases c19 : t264 = 1
    rotate_left
    ·
     rw [if_neg c19] at H
     have c19b0 : (t264 == 1) = false := beq_eq_false_iff_ne.mpr c19
     have c19b1 : (t264 != 1) = true := bne_iff_ne.mpr c19
     have H' := Aside0.mk H
     clear H
     go_wp2
     go_meet
     case rel => exact ⟨_, ((t262 != t263)), (false), (by first | rfl | (simp; done) | (simp [*]; done)), (by first | rfl | (simp; done) | (simp [*]; done)), H', ⟨by first | omega | exact Nat.le_refl _⟩, ⟨bel⟩⟩
    rw [if_pos c19] at H
    have c19b0 : (t264 == 1) = true := beq_iff_eq.mpr c19
    have c19b1 : (t264 != 1) = false := bne_eq_false_iff_eq.mpr c19
    clear c19
    have H' := Aside0.mk H
    clear H
    go_wp2
    go_meet
    case rel => exact ⟨_, ((t262 != t263)), ((t265 == 1)), (by first | rfl | (simp; done) | (simp [*]; done)), (by first | rfl | (simp; done) | (simp [*]; done)), H', ⟨by first | omega | exact Nat.le_refl _⟩, ⟨bel⟩⟩
  case rest =>
   clear HC12
   try clear c1
   try clear c2
   try clear p2
   try clear c3
   try clear c4
   try clear c16
   try clear c16b0
   try clear c16b1
   try clear c17
   try clear c17b0
   try clear c17b1
   try clear c18
   try clear c18b0
   try clear c18b1
   try clear c19
   try clear c19b0
   try clear c19b1
   obtain ⟨kq, x9_11, x42_11, rfl, rfl, HA, HJ11, HB⟩ := hcut
   cases kq with
   | zero => exact absurd HA.out (by simp [soft_Div.j0])
   | succ kj11 =>
    have H := HA.out
    clear HA
    simp only [soft_Div.j0] at H
    by_cases c20 : x42_11 = true
    ·
     subst c20
     rw [if_pos rfl] at H
     simp only [Option.some.injEq, Prod.mk.injEq] at H
     obtain ⟨rfl, rfl⟩ := H
     go_wp2
     go_ret2
     exact ⟨er, bel⟩
    ·
     replace c20 := Bool.eq_false_iff.mpr c20
     subst c20
     rw [if_neg (show ¬ (false = true) by decide)] at H
     by_cases c21 : t264 = 4
     ·
      rw [if_pos c21] at H
      have c21b0 : (t264 == 4) = true := beq_iff_eq.mpr c21
      have c21b1 : (t264 != 4) = false := bne_eq_false_iff_eq.mpr c21
      clear c21
      obtain ⟨t266, A220, H⟩ := Option.bind_eq_some_iff.mp H
      (try dsimp -simprocs only at H)
      have A22 := Aside0.mk A220
      clear A220
      simp only [Option.some.injEq, Prod.mk.injEq] at H
      obtain ⟨rfl, rfl⟩ := H
      go_wp2_with (first | ((with_reducible refine gate_callee (f := 46) rfl ?_); refine goesL_ (some 61) rfl rfl Try.func46 (by kernel_rfl) rfl #[.bool x9_11, .int .i64 2047, .int .u64 0] rfl ga ?_; (with_reducible refine (word_Make.calls x9_11 2047 0 t266 _ A22.out).mono ?_); rintro e w' ⟨rfl, ⟨nd, rfl⟩⟩; refine ⟨_, rfl, ?_⟩))
      go_ret2
      exact ⟨er, bel⟩
     ·
      rw [if_neg c21] at H
      have c21b0 : (t264 == 4) = false := beq_eq_false_iff_ne.mpr c21
      have c21b1 : (t264 != 4) = true := bne_iff_ne.mpr c21
      have HC23 := Aside0.mk H
      clear H
      go_upto_region 10 with (fail)
      go_cut [62] (fun v62 wc => ∃ (kq : Nat) (x62_22 : Bool), v62 = .bool x62_22 ∧ Aside0 (soft_Div.j1 kq a0 a1 x9_11 t265 x62_22 = some (r1, r2)) ∧ Aside0 (kq ≤ kj11) ∧ Aside0 (Below w.heap.size w wc))
      case first =>
       have H := HC23.out
       clear HC23
       by_cases c24 : t265 = 4
       rotate_left
       ·
        rw [if_neg c24] at H
        have c24b0 : (t265 == 4) = false := beq_eq_false_iff_ne.mpr c24
        have c24b1 : (t265 != 4) = true := bne_iff_ne.mpr c24
        (first | rw [c24b0] | (simp only [i64_w, i32_w]; rw [c24b0]) | skip)
        have H' := Aside0.mk H
        clear H
        go_wp2
        go_meet
        case rel => exact ⟨_, ((t264 == 1)), (by first | rfl | (simp; done) | (simp [*]; done)), H', ⟨by have := HJ11.out; first | omega | exact Nat.le_refl _⟩, ⟨bel⟩⟩
       rw [if_pos c24] at H
       have c24b0 : (t265 == 4) = true := beq_iff_eq.mpr c24
       have c24b1 : (t265 != 4) = false := bne_eq_false_iff_eq.mpr c24
       clear c24
       (first | rw [c24b0] | (simp only [i64_w, i32_w]; rw [c24b0]) | skip)
       have H' := Aside0.mk H
       clear H
       go_wp2
       go_meet
       case rel => exact ⟨_, (true), (by first | rfl | (simp; done) | (simp [*]; done)), H', ⟨by have := HJ11.out; first | omega | exact Nat.le_refl _⟩, ⟨bel⟩⟩
      case rest =>
       clear HC23
       try clear c1
       try clear c2
       try clear p2
       try clear c3
       try clear c4
       try clear c16
       try clear c16b0
       try clear c16b1
       try clear c17
       try clear c17b0
       try clear c17b1
       try clear c18
       try clear c18b0
       try clear c18b1
       try clear c19
       try clear c19b0
       try clear c19b1
       try clear c20
       try clear c21
       try clear c21b0
       try clear c21b1
       try clear c24
       try clear c24b0
       try clear c24b1
       try clear p2
       obtain ⟨kq, x62_22, rfl, HA, HJ22, HB⟩ := hcut
       cases kq with
       | zero => exact absurd HA.out (by simp [soft_Div.j1])
       | succ kj22 =>
        have H := HA.out
        clear HA
        simp only [soft_Div.j1] at H
        by_cases c25 : x62_22 = true
        ·
         subst c25
         rw [if_pos rfl] at H
         obtain ⟨t267, A260, H⟩ := Option.bind_eq_some_iff.mp H
         (try dsimp -simprocs only at H)
         have A26 := Aside0.mk A260
         clear A260
         simp only [Option.some.injEq, Prod.mk.injEq] at H
         obtain ⟨rfl, rfl⟩ := H
         go_wp2_with (first | ((with_reducible refine gate_callee (f := 46) rfl ?_); refine goesL_ (some 70) rfl rfl Try.func46 (by kernel_rfl) rfl #[.bool x9_11, .int .i64 0, .int .u64 0] rfl ga ?_; (with_reducible refine (word_Make.calls x9_11 0 0 t267 _ A26.out).mono ?_); rintro e w' ⟨rfl, ⟨nd, rfl⟩⟩; refine ⟨_, rfl, ?_⟩))
         go_ret2
         exact ⟨er, bel⟩
        ·
         replace c25 := Bool.eq_false_iff.mpr c25
         subst c25
         rw [if_neg (show ¬ (false = true) by decide)] at H
         by_cases c27 : t265 = 1
         ·
          rw [if_pos c27] at H
          have c27b0 : (t265 == 1) = true := beq_iff_eq.mpr c27
          have c27b1 : (t265 != 1) = false := bne_eq_false_iff_eq.mpr c27
          clear c27
          obtain ⟨t268, A280, H⟩ := Option.bind_eq_some_iff.mp H
          (try dsimp -simprocs only at H)
          have A28 := Aside0.mk A280
          clear A280
          simp only [Option.some.injEq, Prod.mk.injEq] at H
          obtain ⟨rfl, rfl⟩ := H
          go_wp2_with (first | ((with_reducible refine gate_callee (f := 46) rfl ?_); refine goesL_ (some 75) rfl rfl Try.func46 (by kernel_rfl) rfl #[.bool x9_11, .int .i64 2047, .int .u64 0] rfl ga ?_; (with_reducible refine (word_Make.calls x9_11 2047 0 t268 _ A28.out).mono ?_); rintro e w' ⟨rfl, ⟨nd, rfl⟩⟩; refine ⟨_, rfl, ?_⟩))
          go_ret2
          exact ⟨er, bel⟩
         ·
          rw [if_neg c27] at H
          have c27b0 : (t265 == 1) = false := beq_eq_false_iff_ne.mpr c27
          have c27b1 : (t265 != 1) = true := bne_iff_ne.mpr c27
          obtain ⟨⟨t269, t270⟩, A290, H⟩ := Option.bind_eq_some_iff.mp H
          (try dsimp -simprocs only at H)
          have A29 := Aside0.mk A290
          clear A290
          obtain ⟨⟨t271, t272⟩, A300, H⟩ := Option.bind_eq_some_iff.mp H
          (try dsimp -simprocs only at H)
          have A30 := Aside0.mk A300
          clear A300
          obtain ⟨t273, A310, H⟩ := Option.bind_eq_some_iff.mp H
          (try dsimp -simprocs only at H)
          have A31 := Aside0.mk A310
          clear A310
          obtain ⟨t274, A320, H⟩ := Option.bind_eq_some_iff.mp H
          (try dsimp -simprocs only at H)
          have A32 := Aside0.mk A320
          clear A320
          obtain ⟨ji33, hji33⟩ : ∃ j_ : Int, (wrap64 ((wrap64 (53 - t273)) + 10)) = j_ := ⟨_, rfl⟩
          replace H : (if 0 ≤ (ji33) then (if 0 ≤ (wrap64 (64 - t274)) then ((wide_Wide_Div.f kj22 (shl .u64 t269 (ji33)) 0 (shl .u64 t271 (wrap64 (64 - t274)))).bind fun bt276 => ((round_Round.f kj22 x9_11 0 bt276.1 (wrap64 ((wrap64 ((wrap64 ((wrap64 (t270 - (wrap64 (53 - t273)))) - 10)) - 64)) - (wrap64 (t272 - (wrap64 (64 - t274)))))) (bt276.2.1 != 0)).bind fun bt279 => (some (bt279.1, bt279.2)))) else (none)) else (none)) = some (r1, r2) := by first | (rw [hji33] at H; exact H) | (simp only [hji33] at H ⊢; exact H)
          (try rw [hji33] at A29)
          (try rw [hji33] at A30)
          (try rw [hji33] at A31)
          (try rw [hji33] at A32)
          have hji33w : (IntKind.i64.wrap ((wrap64 (53 - t273)) + 10)) = ji33 := (i64_w _).trans hji33
          by_cases c34 : 0 ≤ (ji33)
          rotate_left
          ·
           rw [if_neg c34] at H
           exact absurd H (by simp)

          rw [if_pos c34] at H
          have c34b0 := eq_true c34
          have c34b1 : decide (0 ≤ (ji33)) = true := decide_eq_true c34
          clear c34
          obtain ⟨ji35, hji35⟩ : ∃ j_ : Int, (shl .u64 t269 (ji33)) = j_ := ⟨_, rfl⟩
          replace H : (if 0 ≤ (wrap64 (64 - t274)) then ((wide_Wide_Div.f kj22 (ji35) 0 (shl .u64 t271 (wrap64 (64 - t274)))).bind fun bt276 => ((round_Round.f kj22 x9_11 0 bt276.1 (wrap64 ((wrap64 ((wrap64 ((wrap64 (t270 - (wrap64 (53 - t273)))) - 10)) - 64)) - (wrap64 (t272 - (wrap64 (64 - t274)))))) (bt276.2.1 != 0)).bind fun bt279 => (some (bt279.1, bt279.2)))) else (none)) = some (r1, r2) := by first | (rw [hji35] at H; exact H) | (simp only [hji35] at H ⊢; exact H)
          (try rw [hji35] at A29)
          (try rw [hji35] at A30)
          (try rw [hji35] at A31)
          (try rw [hji35] at A32)
          have hji35_ : (IntKind.u64.wrap (t269 * 2 ^ min (ji33).toNat 64)) = ji35 := hji35
          have hji35z : (ji33) ≤ 64 → (IntKind.u64.wrap (t269 * 2 ^ (ji33).toNat)) = ji35 := shl_small hji35
          obtain ⟨ji36, hji36⟩ : ∃ j_ : Int, (wrap64 (64 - t274)) = j_ := ⟨_, rfl⟩
          replace H : (if 0 ≤ (ji36) then ((wide_Wide_Div.f kj22 (ji35) 0 (shl .u64 t271 (ji36))).bind fun bt276 => ((round_Round.f kj22 x9_11 0 bt276.1 (wrap64 ((wrap64 ((wrap64 ((wrap64 (t270 - (wrap64 (53 - t273)))) - 10)) - 64)) - (wrap64 (t272 - (ji36))))) (bt276.2.1 != 0)).bind fun bt279 => (some (bt279.1, bt279.2)))) else (none)) = some (r1, r2) := by first | (rw [hji36] at H; exact H) | (simp only [hji36] at H ⊢; exact H)
          (try rw [hji36] at A29)
          (try rw [hji36] at A30)
          (try rw [hji36] at A31)
          (try rw [hji36] at A32)
          have hji36w : (IntKind.i64.wrap (64 - t274)) = ji36 := (i64_w _).trans hji36
          by_cases c37 : 0 ≤ (ji36)
          rotate_left
          ·
           rw [if_neg c37] at H
           exact absurd H (by simp)
          rw [if_pos c37] at H
          have c37b0 := eq_true c37
          have c37b1 : decide (0 ≤ (ji36)) = true := decide_eq_true c37
          clear c37
          obtain ⟨ji38, hji38⟩ : ∃ j_ : Int, (shl .u64 t271 (ji36)) = j_ := ⟨_, rfl⟩
          replace H : ((wide_Wide_Div.f kj22 (ji35) 0 (ji38)).bind fun bt276 => ((round_Round.f kj22 x9_11 0 bt276.1 (wrap64 ((wrap64 ((wrap64 ((wrap64 (t270 - (wrap64 (53 - t273)))) - 10)) - 64)) - (wrap64 (t272 - (ji36))))) (bt276.2.1 != 0)).bind fun bt279 => (some (bt279.1, bt279.2)))) = some (r1, r2) := by first | (rw [hji38] at H; exact H) | (simp only [hji38] at H ⊢; exact H)
          (try rw [hji38] at A29)
          (try rw [hji38] at A30)
          (try rw [hji38] at A31)
          (try rw [hji38] at A32)
          have hji38_ : (IntKind.u64.wrap (t271 * 2 ^ min (ji36).toNat 64)) = ji38 := hji38
          have hji38z : (ji36) ≤ 64 → (IntKind.u64.wrap (t271 * 2 ^ (ji36).toNat)) = ji38 := shl_small hji38
          obtain ⟨⟨t276, t277, t278⟩, A390, H⟩ := Option.bind_eq_some_iff.mp H
          (try dsimp -simprocs only at H)
          have A39 := Aside0.mk A390
          clear A390
          obtain ⟨⟨t279, t280⟩, A400, H⟩ := Option.bind_eq_some_iff.mp H
          (try dsimp -simprocs only at H)
          have A40 := Aside0.mk A400
          clear A400
          simp only [Option.some.injEq, Prod.mk.injEq] at H
          obtain ⟨rfl, rfl⟩ := H
          try go_wp2_with (first | ((with_reducible refine gate_callee (f := 47) rfl ?_); refine goesL_ (some 78) rfl rfl Try.func47 (by kernel_rfl) rfl #[.int .u64 a0] rfl ga ?_; (with_reducible refine (word_Parts.calls kj22 a0 t269 t270 _ A29.out).mono ?_); rintro e w' ⟨rfl, ⟨nd, rfl⟩⟩; refine ⟨_, rfl, ?_⟩; (try (rw [drewN_self wc]; generalize hq_ : World.drewN wc _ = wc; have n0_ : Aside0 (Below w.heap.size w wc) := ⟨by rw [← hq_]; exact bel⟩; clear HB hq_; have HB := n0_; clear n0_))) | ((with_reducible refine gate_callee (f := 47) rfl ?_); refine goesL_ (some 83) rfl rfl Try.func47 (by kernel_rfl) rfl #[.int .u64 a1] rfl ga ?_; (with_reducible refine (word_Parts.calls kj22 a1 t271 t272 _ A30.out).mono ?_); rintro e w' ⟨rfl, ⟨nd, rfl⟩⟩; refine ⟨_, rfl, ?_⟩; (try (rw [drewN_self wc]; generalize hq_ : World.drewN wc _ = wc; have n0_ : Aside0 (Below w.heap.size w wc) := ⟨by rw [← hq_]; exact bel⟩; clear HB hq_; have HB := n0_; clear n0_))) | ((with_reducible refine gate_callee (f := 49) rfl ?_); refine goesL_ (some 88) rfl rfl Try.func49 (by kernel_rfl) rfl #[.agg #[.int .u64 0, .int .u64 t269]] rfl ga ?_; (with_reducible refine (wide_Wide_Len.calls kj22 0 t269 t273 _ A31.out).mono ?_); rintro e w41 ⟨rfl, hb⟩; refine ⟨_, rfl, ?_⟩; refine ax1 (below_step bel hb) ?_; clear HB; intro HB; (try clear hb)) | ((with_reducible refine gate_callee (f := 49) rfl ?_); refine goesL_ (some 92) rfl rfl Try.func49 (by kernel_rfl) rfl #[.agg #[.int .u64 0, .int .u64 t271]] rfl ga ?_; (with_reducible refine (wide_Wide_Len.calls kj22 0 t271 t274 _ A32.out).mono ?_); rintro e w42 ⟨rfl, hb⟩; refine ⟨_, rfl, ?_⟩; refine ax1 (below_step bel hb) ?_; clear HB; intro HB; (try clear hb)) | ((with_reducible refine gate_dst (N := 18) rfl ?_); refine gbox (N := 18) (cs := #[.int .u64 0, .int .u64 0]) (t := 67) ?_; intro gb275 hg w43 hbox hb; refine ax4 (below_step bel hb) hbox ((ge hg : w.heap.size ≤ gb275)) ((ge hg : w.heap.size ≤ gb275)) ?_; clear HB; intro HB BK275 GW275 GE275; clear hb hbox hg; have hcz44_0 := bc BK275 0 rfl; have hcz44_1 := bc BK275 1 rfl; have hfz44_0 := blk_frozen BK275.out 0; have hfz44_1 := blk_frozen BK275.out 1))
          have n0_ : Aside0 (((w43.setCell ⟨gb275, 0, none⟩ (.int .u64 ji35)).setCell ⟨gb275, 1, none⟩ (.int .u64 0)).heap[gb275]? = some (.cells #[.int .u64 ji35, .int .u64 0] 67 (0, 0))) := ⟨bp BK275⟩
          have n1_ : Aside0 (Below w.heap.size w ((w43.setCell ⟨gb275, 0, none⟩ (.int .u64 ji35)).setCell ⟨gb275, 1, none⟩ (.int .u64 0))) := ⟨bes⟩
          (try clear BK275)
          (try clear HB)
          generalize ((w43.setCell ⟨gb275, 0, none⟩ (.int .u64 ji35)).setCell ⟨gb275, 1, none⟩ (.int .u64 0)) = w45 at n0_ n1_ ⊢
          have BK275 := n0_
          have HB := n1_
          clear n0_ n1_
          refine ax2 (blk_drew BK275.out) (below_drew1 HB.out) ?_
          clear BK275 HB
          intro BK275 HB
          refine start_ (n := 12) (S := fun w' => w'.cell? ⟨gb275, 0, none⟩ = some (.int .u64 ji35) ∧ w'.cell? ⟨gb275, 1, none⟩ = some (.int .u64 0)) (ds := []) #[false, false, false, false, false, false, false, false, false, false, false, false] (by kernel_rfl) rfl rfl ⟨bk BK275 0, bk BK275 1⟩ (fun hHeld => ?_); refine with_tabW soft_Div.tab18 soft_Div.bits18 (fun HT_ HW_ => ?_)
          generalize w45.drew = w46 at BK275 HB hHeld ⊢
          refine pu 1 101 (lm 12 2) HT_ ?_
          refine pu 2 102 (lm 12 6) HT_ ?_
          refine pu 3 103 (lm 12 14) HT_ ?_
          refine ta 0 100 (lm 12 15) HT_ HW_ hHeld ?_
          refine on 4 (some 104) (lm 12 31) HT_ (fun K hK => ?_)
          refine goes_ Try.func50 (by kernel_rfl) rfl #[.agg #[.int .u64 ji35, .int .u64 0], .int .u64 ji38] (by rfl) rfl rfl (by (try simp only [List.map_toArray, List.map_cons, List.map_nil]); first | done | (simp only [hji35, hji38]; rfl) | rfl | (simp only [List.length_drop, List.length_take]; rfl)) ?_
          with_reducible refine (wide_Wide_Div.calls kj22 ji35 0 ji38 t276 t277 t278 _ A39.out).mono ?_
          rintro e w47 ⟨rfl, hb⟩
          refine ⟨_, rfl, ?_⟩
          refine ax2 (bb BK275 hb) (below_step bes hb) ?_
          clear BK275 HB
          intro BK275 HB
          (try clear hb)
          (try clear hb2)
          (try clear hk)
          (try clear hi)
          refine hK.out _ _ ⟨bk BK275 0, bk BK275 1⟩ (fun hHeld => ?_)
          clear hK K
          refine no 104 ?_
          refine pu 5 99 (lm 12 63) HT_ ?_
          refine pu 6 105 (lm 12 127) HT_ ?_
          refine pu 7 106 (lm 12 255) HT_ ?_
          refine pu 8 107 (lm 12 511) HT_ ?_
          refine pu 9 19 (lm 12 1023) HT_ ?_
          refine pu 10 20 (lm 12 2047) HT_ ?_
          refine pu 11 21 (lm 12 4095) HT_ ?_
          refine done_ (done_of HT_.out (by kernel_rfl)) ?_
          try go_wp2_with (first | ((with_reducible refine gate_callee (f := 36) rfl ?_); refine goesL_ (some 122) rfl rfl Try.func36 (by kernel_rfl) rfl #[.bool x9_11, .agg #[.int .u64 0, .int .u64 t276], .int .i64 (wrap64 ((wrap64 ((wrap64 ((wrap64 (t270 - (wrap64 (53 - t273)))) - 10)) - 64)) - (wrap64 (t272 - (ji36))))), .bool (t277 != 0)] rfl (by (try simp only [List.map_toArray, List.map_cons, List.map_nil]); first | done | (simp only [hji36]; rfl) | rfl | (simp only [List.length_drop, List.length_take]; rfl)) ?_; (with_reducible refine (round_Round.calls kj22 x9_11 0 t276 (wrap64 ((wrap64 ((wrap64 ((wrap64 (t270 - (wrap64 (53 - t273)))) - 10)) - 64)) - (wrap64 (t272 - (ji36))))) (t277 != 0) t279 t280 _ A40.out).mono ?_); rintro e w48 ⟨rfl, hb⟩; refine ⟨_, rfl, ?_⟩; refine ax2 (bb BK275 hb) (below_step bes hb) ?_; clear BK275; clear HB; intro BK275 HB; (try clear hb)))
          go_ret2
          exact ⟨by first | rfl | (simp [errW_none, errW_some] <;> rfl) | (simp only [← hji33, ← hji35, ← hji36, ← hji38]; first | rfl | (simp [errW_none, errW_some] <;> rfl)) | (simp [*, errW_none, errW_some] <;> rfl), bes⟩
/-! ### soft_Calc_Div_nil: function 15 -/
def soft_Calc_Div_nil.f (k : Nat)  (a1 : Int) (a2 : Int) : Option (Int) := (soft_Div.f k a1 a2).bind fun bt285 => ((soft_Calc_note_nil.f bt285.1 bt285.2).bind fun t287 => (some t287))
theorem soft_Calc_Div_nil.mono : ∀ a0 a1 k, LeO (soft_Calc_Div_nil.f k a0 a1) (soft_Calc_Div_nil.f (k + 1) a0 a1) := by
 intro a0 a1 k
 unfold soft_Calc_Div_nil.f
 repeat' with_reducible first | apply soft_Div.mono | exact LeO.refl _ | exact LeO.none _ | refine LeO.ite ?_ ?_ | refine LeO.bind ?_ (fun _ => ?_)
set_option maxHeartbeats 8000000 in
set_option maxRecDepth 100000 in
theorem soft_Calc_Div_nil.calls (k : Nat)  (a1 : Int) (a2 : Int) (r : Int) (w : World) (h : soft_Calc_Div_nil.f k a1 a2 = some r) :
  Calls Try.prog 15 #[.pointer none, .int .u64 a1, .int .u64 a2] w fun e w' => e = .returned (.int .u64 r) ∧ Below w.heap.size w w' := by
 have HB := Aside0.mk (Below.refl w.heap.size w)
 have H : ((soft_Div.f k a1 a2).bind fun bt285 => ((soft_Calc_note_nil.f bt285.1 bt285.2).bind fun t287 => (some t287))) = some r := h
 clear h
 obtain ⟨⟨t285, t286⟩, A40, H⟩ := Option.bind_eq_some_iff.mp H
 (try dsimp -simprocs only at H)
 have A4 := Aside0.mk A40
 clear A40
 obtain ⟨t287, A50, H⟩ := Option.bind_eq_some_iff.mp H
 (try dsimp -simprocs only at H)
 have A5 := Aside0.mk A50
 clear A50
 obtain rfl := Option.some.inj H
 go_enter Try.func15, Try.ntmps15
 go_wp2_with (first | ((with_reducible refine gate_callee (f := 33) rfl ?_); refine goesL_ (some 10) rfl rfl Try.func33 (by kernel_rfl) rfl #[.int .u64 a1, .int .u64 a2] rfl ga ?_; (with_reducible refine (soft_Div.calls k a1 a2 t285 t286 _ A4.out).mono ?_); rintro e w6 ⟨rfl, hb⟩; refine ⟨_, rfl, ?_⟩; refine ax1 (below_step bel hb) ?_; clear HB; intro HB; (try clear hb)) | ((with_reducible refine gate_callee (f := 30) rfl ?_); refine goesL_ (some 13) rfl rfl Try.func30 (by kernel_rfl) rfl #[.pointer none, .int .u64 t285, .int .u8 t286] rfl ga ?_; (with_reducible refine (soft_Calc_note_nil.calls  t285 t286 t287 _ A5.out).mono ?_); rintro e w' ⟨rfl, ⟨nd, rfl⟩⟩; refine ⟨_, rfl, ?_⟩))
 go_ret
 exact ⟨er, bel⟩

/-! ### mat_Matrix_Check: function 26 -/
mutual
def mat_Matrix_Check.j0 : Nat → Bool → Int → Int → Int → List Int → Option (Int)
 | 0, _, _, _, _, _ => none
 | k + 1, x3, x289000, x289001, x289002, x289003 => if x3 = true then (some 4) else (if x289000 = 0 then (mat_Matrix_Check.j1 k true x289000 x289001 x289002 x289003) else (mat_Matrix_Check.j1 k (x289001 == 0) x289000 x289001 x289002 x289003))
def mat_Matrix_Check.j1 : Nat → Bool → Int → Int → Int → List Int → Option (Int)
 | 0, _, _, _, _, _ => none
 | k + 1, x34, x289000, x289001, x289002, x289003 => if x34 = true then (some 0) else (if (wrap64 ((wrap64 ((wrap64 (x289000 - 1)) * x289002)) + x289001)) > (x289003.length : Int) then (some 4) else (some 0))
end
def mat_Matrix_Check.f (k : Nat) (a0_0 : Int) (a0_1 : Int) (a0_2 : Int) (l0_3 : List Int) : Option (Int) := if a0_0 < 0 then (mat_Matrix_Check.j0 k true a0_0 a0_1 a0_2 l0_3) else (if a0_0 > 4096 then (mat_Matrix_Check.j0 k true a0_0 a0_1 a0_2 l0_3) else (if a0_1 < 0 then (mat_Matrix_Check.j0 k true a0_0 a0_1 a0_2 l0_3) else (if a0_1 > 4096 then (mat_Matrix_Check.j0 k true a0_0 a0_1 a0_2 l0_3) else (if a0_2 < a0_1 then (mat_Matrix_Check.j0 k true a0_0 a0_1 a0_2 l0_3) else (mat_Matrix_Check.j0 k (decide (a0_2 > 1099511627776)) a0_0 a0_1 a0_2 l0_3)))))
theorem mat_Matrix_Check.mono_l : ∀ k, (∀ y0 y1 y2 y3 y4, LeO (mat_Matrix_Check.j0 k y0 y1 y2 y3 y4) (mat_Matrix_Check.j0 (k + 1) y0 y1 y2 y3 y4)) ∧ (∀ y0 y1 y2 y3 y4, LeO (mat_Matrix_Check.j1 k y0 y1 y2 y3 y4) (mat_Matrix_Check.j1 (k + 1) y0 y1 y2 y3 y4))
 | 0 => ⟨fun _ _ _ _ _ r h => by simp [mat_Matrix_Check.j0] at h, fun _ _ _ _ _ r h => by simp [mat_Matrix_Check.j1] at h⟩
 | k + 1 => by
  obtain ⟨ih0, ih1⟩ := mat_Matrix_Check.mono_l k
  refine ⟨?_, ?_⟩ <;> intros <;> (first | unfold mat_Matrix_Check.j0 | unfold mat_Matrix_Check.j1) <;>
   repeat' with_reducible first | apply ih0 | apply ih1 | exact LeO.refl _ | exact LeO.none _ | refine LeO.ite ?_ ?_ | refine LeO.bind ?_ (fun _ => ?_)
theorem mat_Matrix_Check.mono : ∀ a0 a1 a2 a3 k, LeO (mat_Matrix_Check.f k a0 a1 a2 a3) (mat_Matrix_Check.f (k + 1) a0 a1 a2 a3) := by
 intro a0 a1 a2 a3 k
 obtain ⟨ih0, ih1⟩ := mat_Matrix_Check.mono_l k
 unfold mat_Matrix_Check.f
 repeat' with_reducible first | apply ih0 | apply ih1 | exact LeO.refl _ | exact LeO.none _ | refine LeO.ite ?_ ?_ | refine LeO.bind ?_ (fun _ => ?_)
set_option maxHeartbeats 8000000 in
set_option maxRecDepth 100000 in
theorem mat_Matrix_Check.calls (k : Nat) (a0_0 : Int) (a0_1 : Int) (a0_2 : Int) (A0_3 : Option Addr) (c0_3 : Nat) (l0_3 : List Int) (r : Int) (w : World) (hr0_3 : Kd.C (Kd.int .u64) w A0_3 l0_3.length l0_3) (hc0_3 : l0_3.length ≤ c0_3) (h : mat_Matrix_Check.f k a0_0 a0_1 a0_2 l0_3 = some r) :
  Calls Try.prog 26 #[.agg #[.int .i64 a0_0, .int .i64 a0_1, .int .i64 a0_2, .slice A0_3 l0_3.length c0_3]] w fun e w' => e = .returned (.int .i64 r) ∧ Below w.heap.size w w' := by
 have hu25 := Try.underlying25
 have HR0_3 := Aside0.mk hr0_3
 have HC0_3 := Aside0.mk hc0_3
 clear hr0_3 hc0_3
 have HB := Aside0.mk (Below.refl w.heap.size w)
 have H : (if a0_0 < 0 then (mat_Matrix_Check.j0 k true a0_0 a0_1 a0_2 l0_3) else (if a0_0 > 4096 then (mat_Matrix_Check.j0 k true a0_0 a0_1 a0_2 l0_3) else (if a0_1 < 0 then (mat_Matrix_Check.j0 k true a0_0 a0_1 a0_2 l0_3) else (if a0_1 > 4096 then (mat_Matrix_Check.j0 k true a0_0 a0_1 a0_2 l0_3) else (if a0_2 < a0_1 then (mat_Matrix_Check.j0 k true a0_0 a0_1 a0_2 l0_3) else (mat_Matrix_Check.j0 k (decide (a0_2 > 1099511627776)) a0_0 a0_1 a0_2 l0_3)))))) = some r := h
 clear h
 have HC2 := Aside0.mk H
 clear H
 go_enter Try.func26, Try.ntmps26
 go_upto_region 1 with (first | ((with_reducible refine gate_dst (N := 1) rfl ?_); refine gbox (N := 1) (cs := #[.int .i64 a0_0, .int .i64 a0_1, .int .i64 a0_2, .slice A0_3 l0_3.length c0_3]) (t := 25) ?_; intro gb288 hg w3 hbox hb; refine ax4 (below_step bel hb) hbox ((ge hg : w.heap.size ≤ gb288)) ((ge hg : w.heap.size ≤ gb288)) ?_; clear HB; intro HB BK288 GW288 GE288; clear hb hbox hg))
 (try simp only [Act.put, sa0, sa1, sa2])
 go_cut [3] (fun v3 wc => ∃ (kq : Nat) (x3_1 : Bool), v3 = .bool x3_1 ∧ Aside0 (mat_Matrix_Check.j0 kq x3_1 a0_0 a0_1 a0_2 l0_3 = some r) ∧ Aside0 (kq ≤ k) ∧ Aside0 (wc.heap[gb288]? = some (.cells #[.int .i64 a0_0, .int .i64 a0_1, .int .i64 a0_2, (.slice A0_3 l0_3.length c0_3)] 25 (0, 0))) ∧ Aside0 (Below w.heap.size w wc))
 case first =>
  have H := HC2.out
  clear HC2
  by_cases c4 : a0_0 < 0
  ·
   rw [if_pos c4] at H
   have c4b0 : decide (a0_0 < 0) = true := decide_eq_true c4
   clear c4
   (first | rw [c4b0] | (simp only [i64_w, i32_w]; rw [c4b0]) | skip)
   have H' := Aside0.mk H
   clear H
   have hcz5_0 := bc BK288 0 rfl
   have hcz5_1 := bc BK288 1 rfl
   have hcz5_2 := bc BK288 2 rfl
   have hcz5_3 := bc BK288 3 rfl
   have hfz5_0 := blk_frozen BK288.out 0
   have hfz5_1 := blk_frozen BK288.out 1
   have hfz5_2 := blk_frozen BK288.out 2
   have hfz5_3 := blk_frozen BK288.out 3
   go_wp2
   go_meet
   case rel => exact ⟨_, (true), (by first | rfl | (simp; done) | (simp [*]; done)), H', ⟨by first | omega | exact Nat.le_refl _⟩, ⟨kb BK288⟩, ⟨bes⟩⟩
  ·
   rw [if_neg c4] at H
   have c4b0 : decide (a0_0 < 0) = false := decide_eq_false c4
   clear c4
   (first | rw [c4b0] | (simp only [i64_w, i32_w]; rw [c4b0]) | skip)
   by_cases c6 : a0_0 > 4096
   ·
    rw [if_pos c6] at H
    have c6b0 : decide (4096 < a0_0) = true := decide_eq_true c6
    clear c6
    have H' := Aside0.mk H
    clear H
    have hcz7_0 := bc BK288 0 rfl
    have hcz7_1 := bc BK288 1 rfl
    have hcz7_2 := bc BK288 2 rfl
    have hcz7_3 := bc BK288 3 rfl
    have hfz7_0 := blk_frozen BK288.out 0
    have hfz7_1 := blk_frozen BK288.out 1
    have hfz7_2 := blk_frozen BK288.out 2
    have hfz7_3 := blk_frozen BK288.out 3
    go_wp2
    go_meet
    case rel => exact ⟨_, (true), (by first | rfl | (simp; done) | (simp [*]; done)), H', ⟨by first | omega | exact Nat.le_refl _⟩, ⟨kb BK288⟩, ⟨bes⟩⟩
   ·
    rw [if_neg c6] at H
    have c6b0 : decide (4096 < a0_0) = false := decide_eq_false c6
    clear c6
    by_cases c8 : a0_1 < 0
    ·
     rw [if_pos c8] at H
     have c8b0 : decide (a0_1 < 0) = true := decide_eq_true c8
     clear c8
     have H' := Aside0.mk H
     clear H
     have hcz9_0 := bc BK288 0 rfl
     have hcz9_1 := bc BK288 1 rfl
     have hcz9_2 := bc BK288 2 rfl
     have hcz9_3 := bc BK288 3 rfl
     have hfz9_0 := blk_frozen BK288.out 0
     have hfz9_1 := blk_frozen BK288.out 1
     have hfz9_2 := blk_frozen BK288.out 2
     have hfz9_3 := blk_frozen BK288.out 3
     go_wp2
     go_meet
     case rel => exact ⟨_, (true), (by first | rfl | (simp; done) | (simp [*]; done)), H', ⟨by first | omega | exact Nat.le_refl _⟩, ⟨kb BK288⟩, ⟨bes⟩⟩
    ·
     rw [if_neg c8] at H
     have c8b0 : decide (a0_1 < 0) = false := decide_eq_false c8
     clear c8
     by_cases c10 : a0_1 > 4096
     ·
      rw [if_pos c10] at H
      have c10b0 : decide (4096 < a0_1) = true := decide_eq_true c10
      clear c10
      have H' := Aside0.mk H
      clear H
      have hcz11_0 := bc BK288 0 rfl
      have hcz11_1 := bc BK288 1 rfl
      have hcz11_2 := bc BK288 2 rfl
      have hcz11_3 := bc BK288 3 rfl
      have hfz11_0 := blk_frozen BK288.out 0
      have hfz11_1 := blk_frozen BK288.out 1
      have hfz11_2 := blk_frozen BK288.out 2
      have hfz11_3 := blk_frozen BK288.out 3
      go_wp2
      go_meet
      case rel => exact ⟨_, (true), (by first | rfl | (simp; done) | (simp [*]; done)), H', ⟨by first | omega | exact Nat.le_refl _⟩, ⟨kb BK288⟩, ⟨bes⟩⟩
     ·
      rw [if_neg c10] at H
      have c10b0 : decide (4096 < a0_1) = false := decide_eq_false c10
      clear c10
      by_cases c12 : a0_2 < a0_1
      ·
       rw [if_pos c12] at H
       have c12b0 : decide (a0_2 < a0_1) = true := decide_eq_true c12
       clear c12
       have H' := Aside0.mk H
       clear H
       have hcz13_0 := bc BK288 0 rfl
       have hcz13_1 := bc BK288 1 rfl
       have hcz13_2 := bc BK288 2 rfl
       have hcz13_3 := bc BK288 3 rfl
       have hfz13_0 := blk_frozen BK288.out 0
       have hfz13_1 := blk_frozen BK288.out 1
       have hfz13_2 := blk_frozen BK288.out 2
       have hfz13_3 := blk_frozen BK288.out 3
       go_wp2
       go_meet
       case rel => exact ⟨_, (true), (by first | rfl | (simp; done) | (simp [*]; done)), H', ⟨by first | omega | exact Nat.le_refl _⟩, ⟨kb BK288⟩, ⟨bes⟩⟩
      ·
       rw [if_neg c12] at H
       have c12b0 : decide (a0_2 < a0_1) = false := decide_eq_false c12
       clear c12
       have H' := Aside0.mk H
       clear H
       have hcz14_0 := bc BK288 0 rfl
       have hcz14_1 := bc BK288 1 rfl
       have hcz14_2 := bc BK288 2 rfl
       have hcz14_3 := bc BK288 3 rfl
       have hfz14_0 := blk_frozen BK288.out 0
       have hfz14_1 := blk_frozen BK288.out 1
       have hfz14_2 := blk_frozen BK288.out 2
       have hfz14_3 := blk_frozen BK288.out 3
       go_wp2
       go_meet
       case rel => exact ⟨_, (decide (a0_2 > 1099511627776)), (by first | rfl | (simp; done) | (simp [*]; done)), H', ⟨by first | omega | exact Nat.le_refl _⟩, ⟨kb BK288⟩, ⟨bes⟩⟩
 case rest =>
  clear HC2
  try clear c1
  try clear c2
  try clear p2
  try clear c4
  try clear c4b0
  try clear c6
  try clear c6b0
  try clear c8
  try clear c8b0
  try clear c10
  try clear c10b0
  try clear c12
  try clear c12b0
  try clear hcz11_0
  try clear hcz11_1
  try clear hcz11_2
  try clear hcz11_3
  try clear hcz13_0
  try clear hcz13_1
  try clear hcz13_2
  try clear hcz13_3
  try clear hcz14_0
  try clear hcz14_1
  try clear hcz14_2
  try clear hcz14_3
  try clear hcz5_0
  try clear hcz5_1
  try clear hcz5_2
  try clear hcz5_3
  try clear hcz7_0
  try clear hcz7_1
  try clear hcz7_2
  try clear hcz7_3
  try clear hcz9_0
  try clear hcz9_1
  try clear hcz9_2
  try clear hcz9_3
  try clear hfz11_0
  try clear hfz11_1
  try clear hfz11_2
  try clear hfz11_3
  try clear hfz13_0
  try clear hfz13_1
  try clear hfz13_2
  try clear hfz13_3
  try clear hfz14_0
  try clear hfz14_1
  try clear hfz14_2
  try clear hfz14_3
  try clear hfz5_0
  try clear hfz5_1
  try clear hfz5_2
  try clear hfz5_3
  try clear hfz7_0
  try clear hfz7_1
  try clear hfz7_2
  try clear hfz7_3
  try clear hfz9_0
  try clear hfz9_1
  try clear hfz9_2
  try clear hfz9_3
  obtain ⟨kq, x3_1, rfl, HA, HJ1, BK288, HB⟩ := hcut
  cases kq with
  | zero => exact absurd HA.out (by simp [mat_Matrix_Check.j0])
  | succ kj1 =>
   have H := HA.out
   clear HA
   simp only [mat_Matrix_Check.j0] at H
   by_cases c15 : x3_1 = true
   ·
    subst c15
    rw [if_pos rfl] at H
    obtain rfl := Option.some.inj H
    go_wp2
    go_ret
    exact ⟨er, bes⟩
   ·
    replace c15 := Bool.eq_false_iff.mpr c15
    subst c15
    rw [if_neg (show ¬ (false = true) by decide)] at H
    have HC16 := Aside0.mk H
    clear H
    go_upto_region 3 with (fail)
    go_cut [34] (fun v34 wc => ∃ (kq : Nat) (x34_15 : Bool), v34 = .bool x34_15 ∧ Aside0 (mat_Matrix_Check.j1 kq x34_15 a0_0 a0_1 a0_2 l0_3 = some r) ∧ Aside0 (kq ≤ kj1) ∧ Aside0 (wc.heap[gb288]? = some (.cells #[.int .i64 a0_0, .int .i64 a0_1, .int .i64 a0_2, (.slice A0_3 l0_3.length c0_3)] 25 (0, 0))) ∧ Aside0 (Below w.heap.size w wc))
    case first =>
     have H := HC16.out
     clear HC16
     by_cases c17 : a0_0 = 0
     ·
      rw [if_pos c17] at H
      have c17b0 : (a0_0 == 0) = true := beq_iff_eq.mpr c17
      have c17b1 : (a0_0 != 0) = false := bne_eq_false_iff_eq.mpr c17
      clear c17
      (first | rw [c17b0] | (simp only [i64_w, i32_w]; rw [c17b0]) | skip)
      have H' := Aside0.mk H
      clear H
      have hcz18_0 := bc BK288 0 rfl
      have hcz18_1 := bc BK288 1 rfl
      have hcz18_2 := bc BK288 2 rfl
      have hcz18_3 := bc BK288 3 rfl
      have hfz18_0 := blk_frozen BK288.out 0
      have hfz18_1 := blk_frozen BK288.out 1
      have hfz18_2 := blk_frozen BK288.out 2
      have hfz18_3 := blk_frozen BK288.out 3
      go_wp2
      go_meet
      case rel => exact ⟨_, (true), (by first | rfl | (simp; done) | (simp [*]; done)), H', ⟨by have := HJ1.out; first | omega | exact Nat.le_refl _⟩, ⟨kb BK288⟩, ⟨bes⟩⟩
     ·
      rw [if_neg c17] at H
      have c17b0 : (a0_0 == 0) = false := beq_eq_false_iff_ne.mpr c17
      have c17b1 : (a0_0 != 0) = true := bne_iff_ne.mpr c17
      (first | rw [c17b0] | (simp only [i64_w, i32_w]; rw [c17b0]) | skip)
      have H' := Aside0.mk H
      clear H
      have hcz19_0 := bc BK288 0 rfl
      have hcz19_1 := bc BK288 1 rfl
      have hcz19_2 := bc BK288 2 rfl
      have hcz19_3 := bc BK288 3 rfl
      have hfz19_0 := blk_frozen BK288.out 0
      have hfz19_1 := blk_frozen BK288.out 1
      have hfz19_2 := blk_frozen BK288.out 2
      have hfz19_3 := blk_frozen BK288.out 3
      go_wp2
      go_meet
      case rel => exact ⟨_, ((a0_1 == 0)), (by first | rfl | (simp; done) | (simp [*]; done)), H', ⟨by have := HJ1.out; first | omega | exact Nat.le_refl _⟩, ⟨kb BK288⟩, ⟨bes⟩⟩
    case rest =>
     clear HC16
     try clear c1
     try clear c2
     try clear p2
     try clear c4
     try clear c4b0
     try clear c6
     try clear c6b0
     try clear c8
     try clear c8b0
     try clear c10
     try clear c10b0
     try clear c12
     try clear c12b0
     try clear c15
     try clear c17
     try clear c17b0
     try clear c17b1
     try clear hcz11_0
     try clear hcz11_1
     try clear hcz11_2
     try clear hcz11_3
     try clear hcz13_0
     try clear hcz13_1
     try clear hcz13_2
     try clear hcz13_3
     try clear hcz14_0
     try clear hcz14_1
     try clear hcz14_2
     try clear hcz14_3
     try clear hcz18_0
     try clear hcz18_1
     try clear hcz18_2
     try clear hcz18_3
     try clear hcz19_0
     try clear hcz19_1
     try clear hcz19_2
     try clear hcz19_3
     try clear hcz5_0
     try clear hcz5_1
     try clear hcz5_2
     try clear hcz5_3
     try clear hcz7_0
     try clear hcz7_1
     try clear hcz7_2
     try clear hcz7_3
     try clear hcz9_0
     try clear hcz9_1
     try clear hcz9_2
     try clear hcz9_3
     try clear hfz11_0
     try clear hfz11_1
     try clear hfz11_2
     try clear hfz11_3
     try clear hfz13_0
     try clear hfz13_1
     try clear hfz13_2
     try clear hfz13_3
     try clear hfz14_0
     try clear hfz14_1
     try clear hfz14_2
     try clear hfz14_3
     try clear hfz18_0
     try clear hfz18_1
     try clear hfz18_2
     try clear hfz18_3
     try clear hfz19_0
     try clear hfz19_1
     try clear hfz19_2
     try clear hfz19_3
     try clear hfz5_0
     try clear hfz5_1
     try clear hfz5_2
     try clear hfz5_3
     try clear hfz7_0
     try clear hfz7_1
     try clear hfz7_2
     try clear hfz7_3
     try clear hfz9_0
     try clear hfz9_1
     try clear hfz9_2
     try clear hfz9_3
     try clear p2
     obtain ⟨kq, x34_15, rfl, HA, HJ15, BK288, HB⟩ := hcut
     cases kq with
     | zero => exact absurd HA.out (by simp [mat_Matrix_Check.j1])
     | succ kj15 =>
      have H := HA.out
      clear HA
      simp only [mat_Matrix_Check.j1] at H
      by_cases c20 : x34_15 = true
      ·
       subst c20
       rw [if_pos rfl] at H
       obtain rfl := Option.some.inj H
       go_wp2
       go_ret
       exact ⟨er, bes⟩
      ·
       replace c20 := Bool.eq_false_iff.mpr c20
       subst c20
       rw [if_neg (show ¬ (false = true) by decide)] at H
       by_cases c21 : (wrap64 ((wrap64 ((wrap64 (a0_0 - 1)) * a0_2)) + a0_1)) > (l0_3.length : Int)
       ·
        rw [if_pos c21] at H
        have c21b0 : decide ((l0_3.length : Int) < (wrap64 ((wrap64 ((wrap64 (a0_0 - 1)) * a0_2)) + a0_1))) = true := decide_eq_true c21
        clear c21
        obtain rfl := Option.some.inj H
        have hcz22_0 := bc BK288 0 rfl
        have hcz22_1 := bc BK288 1 rfl
        have hcz22_2 := bc BK288 2 rfl
        have hcz22_3 := bc BK288 3 rfl
        have hfz22_0 := blk_frozen BK288.out 0
        have hfz22_1 := blk_frozen BK288.out 1
        have hfz22_2 := blk_frozen BK288.out 2
        have hfz22_3 := blk_frozen BK288.out 3
        go_wp2
        go_ret
        exact ⟨er, bes⟩
       ·
        rw [if_neg c21] at H
        have c21b0 : decide ((l0_3.length : Int) < (wrap64 ((wrap64 ((wrap64 (a0_0 - 1)) * a0_2)) + a0_1))) = false := decide_eq_false c21
        clear c21
        obtain rfl := Option.some.inj H
        have hcz23_0 := bc BK288 0 rfl
        have hcz23_1 := bc BK288 1 rfl
        have hcz23_2 := bc BK288 2 rfl
        have hcz23_3 := bc BK288 3 rfl
        have hfz23_0 := blk_frozen BK288.out 0
        have hfz23_1 := blk_frozen BK288.out 1
        have hfz23_2 := blk_frozen BK288.out 2
        have hfz23_3 := blk_frozen BK288.out 3
        go_wp2
        go_ret
        exact ⟨er, bes⟩

/-! ### solve_of_1: function 42 -/
def solve_of_1.f (a0 : Int) (a1 : Int) : Option (Int × Int) := some (wrap64 (a0 + 1), a1)
set_option maxHeartbeats 8000000 in
set_option maxRecDepth 100000 in
theorem solve_of_1.calls (a0 : Int) (a1 : Int) (r1 : Int) (r2 : Int) (w : World) (h : solve_of_1.f a0 a1 = some (r1, r2)) :
  Calls Try.prog 42 #[.int .i64 a0, .int .i64 a1] w fun e w' => e = .returned (.tuple #[.int .i64 r1, .int .i64 r2]) ∧ Drawn0 w w' := by
 have H : (some (wrap64 (a0 + 1), a1)) = some (r1, r2) := h
 clear h
 simp only [Option.some.injEq, Prod.mk.injEq] at H
 obtain ⟨rfl, rfl⟩ := H
 go_enter Try.func42, Try.ntmps42
 go_wp2
 go_ret2
 exact ⟨by first | rfl | (simp; done) | (simp [*]; done), by repeat (first | exact Drawn0.refl _ | apply Drawn0.step)⟩

/-! ### solve_of_2: function 43 -/
def solve_of_2.f (a0 : Int) (a1 : Int) : Option (Int × Int) := some (0, a0)
set_option maxHeartbeats 8000000 in
set_option maxRecDepth 100000 in
theorem solve_of_2.calls (a0 : Int) (a1 : Int) (r1 : Int) (r2 : Int) (w : World) (h : solve_of_2.f a0 a1 = some (r1, r2)) :
  Calls Try.prog 43 #[.int .i64 a0, .int .i64 a1] w fun e w' => e = .returned (.tuple #[.int .i64 r1, .int .i64 r2]) ∧ Drawn0 w w' := by
 have H : (some (0, a0)) = some (r1, r2) := h
 clear h
 simp only [Option.some.injEq, Prod.mk.injEq] at H
 obtain ⟨rfl, rfl⟩ := H
 go_enter Try.func43, Try.ntmps43
 go_wp2
 go_ret2
 exact ⟨by first | rfl | (simp; done) | (simp [*]; done), by repeat (first | exact Drawn0.refl _ | apply Drawn0.step)⟩

/-! ### solve_of: function 28 -/
theorem run_store_func {P : Program} {w : World} {a : Addr} {m : Mode} (f : Fn) (fs cs : Array Value) : (store a (.func f fs cs) m).run P w = stored P w a (.func f fs cs) m := run_store P w a _ m rfl
theorem sel_run60 (f : Fn) (fs cs : Array Value) (w : World) : (Instr.field 60 (.agg #[.func f fs cs]) 0).run Try.prog w = .ok (.func f fs cs) w := by
  have hu := Try.underlying60
  have h2 := Try.underlying58
  unfold Instr.field part
  simp [go_sem, hu, h2]
  rfl
attribute [local go_sem] run_store_func
def solve_of_t.f (a0 : Bool) : Option Bool := if a0 = true then some true else none
theorem solve_of_t.calls (a0 : Bool) (r : Bool) (w : World) (h : solve_of_t.f a0 = some r) :
  Calls Try.prog 28 #[.bool a0] w fun e w' => e = .returned (.agg #[.func (.func 42) #[] #[]]) ∧ Below w.heap.size w w' := by
 have HB := Aside0.mk (Below.refl w.heap.size w)
 have hu := Try.underlying60
 have c : a0 = true := by unfold solve_of_t.f at h; cases a0 <;> simp at h ⊢
 subst c
 clear h
 go_enter Try.func28, Try.ntmps28
 go_wp2_with (first | ((with_reducible refine gate_dst (N := 2) rfl ?_); refine gbox (N := 2) (cs := #[.nilFunc]) (t := 60) ?_; intro gb1 hg w5 hbox hb; have n1_ := Aside0.mk (below_step bel hb); have n2_ := Aside0.mk (hbox); have n3_ := Aside0.mk ((ge hg : w.heap.size ≤ gb1)); clear HB; have HB := n1_; have BK1 := n2_; have GE1 := n3_; clear n1_ n2_ n3_; clear hb hbox hg; have hcz : w5.cell? ⟨gb1, 0, none⟩ = some .nilFunc := bk BK1 0; have hfz := blk_frozen BK1.out 0))
 refine bodyPost_ret (results_cell_row rfl _ _ gb1 60 #[.func (.func 42) #[] #[]] (0, 0) _ rfl (bp BK1) Try.underlying60 rfl (by kernel_rfl)) rfl ?_
 exact ⟨er, bes⟩
def solve_of_e.f (a0 : Bool) : Option Bool := if a0 = false then some true else none
theorem solve_of_e.calls (a0 : Bool) (r : Bool) (w : World) (h : solve_of_e.f a0 = some r) :
  Calls Try.prog 28 #[.bool a0] w fun e w' => e = .returned (.agg #[.func (.func 43) #[] #[]]) ∧ Below w.heap.size w w' := by
 have HB := Aside0.mk (Below.refl w.heap.size w)
 have hu := Try.underlying60
 have c : a0 = false := by unfold solve_of_e.f at h; cases a0 <;> simp at h ⊢
 subst c
 clear h
 go_enter Try.func28, Try.ntmps28
 go_wp2_with (first | ((with_reducible refine gate_dst (N := 2) rfl ?_); refine gbox (N := 2) (cs := #[.nilFunc]) (t := 60) ?_; intro gb1 hg w5 hbox hb; have n1_ := Aside0.mk (below_step bel hb); have n2_ := Aside0.mk (hbox); have n3_ := Aside0.mk ((ge hg : w.heap.size ≤ gb1)); clear HB; have HB := n1_; have BK1 := n2_; have GE1 := n3_; clear n1_ n2_ n3_; clear hb hbox hg; have hcz : w5.cell? ⟨gb1, 0, none⟩ = some .nilFunc := bk BK1 0; have hfz := blk_frozen BK1.out 0))
 refine bodyPost_ret (results_cell_row rfl _ _ gb1 60 #[.func (.func 43) #[] #[]] (0, 0) _ rfl (bp BK1) Try.underlying60 rfl (by kernel_rfl)) rfl ?_
 exact ⟨er, bes⟩
end Go.Proofs.Ytnjobojkoaknpaa.F
