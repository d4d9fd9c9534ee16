-- Written by a program of this seat's session (mkprint), out of the translation.
import Derived.Test.YtfbnojelmdcnoaaShort
import Derived.Test.YtfbnojelmdcnoaaFx0
import Derived.Test.YtfbnojelmdcnoaaFx2
import Derived.Test.YtfbnojelmdcnoaaFx3
import Derived.Test.YtfbnojelmdcnoaaFx4
import Derived.Test.YtfbnojelmdcnoaaFx5
import Derived.Test.YtfbnojelmdcnoaaFx6
namespace Go.Proofs.Ytfbnojelmdcnoaa.F
open Go.RowKit Go.Proofs.YtfbnojelmdcnoaaW.PrintWords Go.Proofs.YtfbnojelmdcnoaaW.PrintLast Go.Proofs.YtfbnojelmdcnoaaW.PrintMore
attribute [local go_sem] max2_int min2_int max_two min_two max_three min_three max_four min_four   -- for this text's walks alone
set_option linter.unusedVariables false
set_option linter.unusedSimpArgs false

/-! ### wide_Mul: function 56 -/
def wide_Mul.f (a0 : Int) (a1 : Int) : Option (Int × Int) := (bits_Mul64.f a0 a1).bind fun bt247 => (some (bt247.1, bt247.2))
set_option maxHeartbeats 8000000 in
set_option maxRecDepth 100000 in
theorem wide_Mul.calls (a0 : Int) (a1 : Int) (r1 : Int) (r2 : Int) (w : World) (h : wide_Mul.f a0 a1 = some (r1, r2)) :
  Calls Try.prog 56 #[.int .u64 a0, .int .u64 a1] w fun e w' => e = .returned (.agg #[.int .u64 r1, .int .u64 r2]) ∧ Below w.heap.size w w' := by
 have hu48 := Try.underlying48
 have HB := Aside0.mk (Below.refl w.heap.size w)
 have H : ((bits_Mul64.f a0 a1).bind fun bt247 => (some (bt247.1, bt247.2))) = some (r1, r2) := h
 clear h
 obtain ⟨⟨t247, t248⟩, A30, H⟩ := Option.bind_eq_some_iff.mp H
 (try dsimp -simprocs only at H)
 have A3 := Aside0.mk A30
 clear A30
 simp only [Option.some.injEq, Prod.mk.injEq] at H
 obtain ⟨rfl, rfl⟩ := H
 go_enter Try.func56, Try.ntmps56
 go_wp2_with (first | ((with_reducible refine gate_dst (N := 4) rfl ?_); refine gbox (N := 4) (cs := #[.int .u64 0, .int .u64 0]) (t := 48) ?_; intro gb246 hg w4 hbox hb; refine ax4 (below_step bel hb) hbox ((ge hg : w.heap.size ≤ gb246)) ((ge hg : w.heap.size ≤ gb246)) ?_; clear HB; intro HB BK246 GW246 GE246; clear hb hbox hg) | ((with_reducible refine gate_callee (f := 70) rfl ?_); refine goesL_ (some 10) rfl rfl Try.func70 (by kernel_rfl) rfl #[.int .u64 a0, .int .u64 a1] rfl ga ?_; (with_reducible refine (bits_Mul64.calls a0 a1 t247 t248 _ A3.out).mono ?_); rintro e w' ⟨rfl, ⟨nd, rfl⟩⟩; refine ⟨_, rfl, ?_⟩; (try (rw [drewN_self w4]; generalize hq_ : World.drewN w4 _ = w4; have n0_ : Aside0 (w4.heap[gb246]? = some (.cells #[.int .u64 0, .int .u64 0] 48 (0, 0))) := ⟨by rw [← hq_]; exact (kb BK246)⟩; have n1_ : Aside0 (Below w.heap.size w w4) := ⟨by rw [← hq_]; exact bes⟩; clear BK246 HB hq_; have BK246 := n0_; have HB := n1_; clear n0_ n1_)); have hcz5_0 := bc BK246 0 rfl; have hcz5_1 := bc BK246 1 rfl; have hfz5_0 := blk_frozen BK246.out 0; have hfz5_1 := blk_frozen BK246.out 1))
 refine bodyPost_ret (results_cell_row rfl _ _ gb246 48 #[.int .u64 t247, .int .u64 t248] (0, 0) _ rfl (by (with_reducible repeat (first | refine blk_drewN ?_ _ | refine blk_drew ?_ | refine blk_alloc ?_ _)); refine blk_put (cs := #[.int .u64 t247, .int .u64 0]) ?_ 1 _ rfl; (with_reducible repeat (first | refine blk_drewN ?_ _ | refine blk_drew ?_ | refine blk_alloc ?_ _)); refine blk_put (cs := #[.int .u64 0, .int .u64 0]) ?_ 0 _ rfl; (with_reducible repeat (first | refine blk_drewN ?_ _ | refine blk_drew ?_ | refine blk_alloc ?_ _)); exact BK246.out) Try.underlying48 rfl (by kernel_rfl)) rfl ?_
 exact ⟨er, bes⟩

/-! ### soft_Mul: function 21 -/
def soft_Mul.j0 : Nat → Int → Int → Bool → Int → Int → Bool → Option (Int × Int)
 | 0, _, _, _, _, _, _ => none
 | k + 1, x0, x1, x9, x10, x11, x36 => if x36 = true then (some (9221120237041090560, 16)) else (if x10 = 4 then ((word_Make.f x9 2047 0).bind fun t259 => (some (t259, 0))) else (if x11 = 4 then ((word_Make.f x9 2047 0).bind fun t260 => (some (t260, 0))) else ((word_Parts.f k x0).bind fun bt261 => ((word_Parts.f k x1).bind fun bt263 => ((wide_Mul.f bt261.1 bt263.1).bind fun bt265 => ((round_Round.f k x9 bt265.1 bt265.2 (wrap64 (bt261.2 + bt263.2)) false).bind fun bt267 => (some (bt267.1, bt267.2))))))))
def soft_Mul.f (k : Nat) (a0 : Int) (a1 : Int) : Option (Int × Int) := (soft_nan.f k (([a0, a1] : List Int))).bind fun bt252 => (if bt252.2.2 = true then (some (bt252.1, bt252.2.1)) else ((word_Neg.f a0).bind fun t255 => ((word_Neg.f a1).bind fun t256 => ((word_Kind.f k a0).bind fun t257 => ((word_Kind.f k a1).bind fun t258 => (if t257 = 4 then (if t258 = 1 then (soft_Mul.j0 k a0 a1 (t255 != t256) t257 t258 true) else (if t257 = 1 then (soft_Mul.j0 k a0 a1 (t255 != t256) t257 t258 (t258 == 4)) else (soft_Mul.j0 k a0 a1 (t255 != t256) t257 t258 false))) else (if t257 = 1 then (soft_Mul.j0 k a0 a1 (t255 != t256) t257 t258 (t258 == 4)) else (soft_Mul.j0 k a0 a1 (t255 != t256) t257 t258 false))))))))
theorem soft_Mul.mono_l : ∀ k, (∀ y0 y1 y2 y3 y4 y5, LeO (soft_Mul.j0 k y0 y1 y2 y3 y4 y5) (soft_Mul.j0 (k + 1) y0 y1 y2 y3 y4 y5))
 | 0 => fun _ _ _ _ _ _ r h => by simp [soft_Mul.j0] at h
 | k + 1 => by
  have ih0 := soft_Mul.mono_l k
  ·
   intro y0 y1 y2 y3 y4 y5
   unfold soft_Mul.j0
   repeat' with_reducible first | apply ih0 | apply round_Round.mono | apply soft_nan.mono | apply word_Kind.mono | apply word_Parts.mono | exact LeO.refl _ | exact LeO.none _ | refine LeO.ite ?_ ?_ | refine LeO.bind ?_ (fun _ => ?_)
theorem soft_Mul.mono : ∀ a0 a1 k, LeO (soft_Mul.f k a0 a1) (soft_Mul.f (k + 1) a0 a1) := by
 intro a0 a1 k
 have ih0 := soft_Mul.mono_l k
 unfold soft_Mul.f
 repeat' with_reducible first | apply ih0 | apply round_Round.mono | apply soft_nan.mono | apply word_Kind.mono | apply word_Parts.mono | exact LeO.refl _ | exact LeO.none _ | refine LeO.ite ?_ ?_ | refine LeO.bind ?_ (fun _ => ?_)
set_option maxHeartbeats 8000000 in
set_option maxRecDepth 100000 in
theorem soft_Mul.calls (k : Nat) (a0 : Int) (a1 : Int) (r1 : Int) (r2 : Int) (w : World) (h : soft_Mul.f k a0 a1 = some (r1, r2)) :
  Calls Try.prog 21 #[.int .u64 a0, .int .u64 a1] w fun e w' => e = .returned (.tuple #[.int .u64 r1, .int .u8 r2]) ∧ Below w.heap.size w w' := by
 have HB := Aside0.mk (Below.refl w.heap.size w)
 have H : ((soft_nan.f k (([a0, a1] : List Int))).bind fun bt252 => (if bt252.2.2 = true then (some (bt252.1, bt252.2.1)) else ((word_Neg.f a0).bind fun t255 => ((word_Neg.f a1).bind fun t256 => ((word_Kind.f k a0).bind fun t257 => ((word_Kind.f k a1).bind fun t258 => (if t257 = 4 then (if t258 = 1 then (soft_Mul.j0 k a0 a1 (t255 != t256) t257 t258 true) else (if t257 = 1 then (soft_Mul.j0 k a0 a1 (t255 != t256) t257 t258 (t258 == 4)) else (soft_Mul.j0 k a0 a1 (t255 != t256) t257 t258 false))) else (if t257 = 1 then (soft_Mul.j0 k a0 a1 (t255 != t256) t257 t258 (t258 == 4)) else (soft_Mul.j0 k a0 a1 (t255 != t256) t257 t258 false))))))))) = some (r1, r2) := h
 clear h
 obtain ⟨y249, hy249⟩ : ∃ y_ : List Int, y_ = (([a0, a1] : List Int)) := ⟨_, rfl⟩
 replace H : ((soft_nan.f k y249).bind fun bt252 => (if bt252.2.2 = true then (some (bt252.1, bt252.2.1)) else ((word_Neg.f a0).bind fun t255 => ((word_Neg.f a1).bind fun t256 => ((word_Kind.f k a0).bind fun t257 => ((word_Kind.f k a1).bind fun t258 => (if t257 = 4 then (if t258 = 1 then (soft_Mul.j0 k a0 a1 (t255 != t256) t257 t258 true) else (if t257 = 1 then (soft_Mul.j0 k a0 a1 (t255 != t256) t257 t258 (t258 == 4)) else (soft_Mul.j0 k a0 a1 (t255 != t256) t257 t258 false))) else (if t257 = 1 then (soft_Mul.j0 k a0 a1 (t255 != t256) t257 t258 (t258 == 4)) else (soft_Mul.j0 k a0 a1 (t255 != t256) t257 t258 false))))))))) = some (r1, r2) := by first | (rw [hy249]; with_reducible exact H) | (have H2_ := (Option.bind_some _ _).symm.trans H; rw [hy249]; with_reducible exact H2_) | (have H2_ := (Option.bind_some _ _).symm.trans H; with_reducible exact H2_) | with_reducible exact H | (rw [hy249]; exact H) | exact H
 have Ny249 := Aside0.mk hy249
 clear hy249
 obtain ⟨⟨t252, t253, t254⟩, A30, H⟩ := Option.bind_eq_some_iff.mp H
 (try dsimp -simprocs only at H)
 have A3 := Aside0.mk A30
 clear A30
 by_cases c4 : t254 = true
 ·
  subst c4
  rw [if_pos rfl] at H
  simp only [Option.some.injEq, Prod.mk.injEq] at H
  obtain ⟨rfl, rfl⟩ := H
  go_enter Try.func21, Try.ntmps21
  go_wp2_with (first | ((with_reducible refine gate_dst (N := 19) rfl ?_); refine Kd.R_lit (Kd.int .u64) _ 22 ?hg (N := 19) ?hd (xs := ([a0, a1] : List Int)) (inner := [.int .u64 a0, .int .u64 a1]) (ok := fun _ => True) (okp := fun _ => True) ?hr ?hp (fun _ hk => hk) trivial (Below.refl _ _) (Nat.le_refl _) (by simp) ?_; (case hd => rfl); (case hg => rfl); (case hr => first | (go_simp; done) | (go_simp; rfl)); (case hp => exact (Reps.one (show Kd.M (Kd.int .u64) _ _ _ a0 [.int .u64 a0] from rfl) (Reps.one (show Kd.M (Kd.int .u64) _ _ _ a1 [.int .u64 a1] from rfl) (Reps.none _ _)))); intro v250 w5 ho6 hb hg_ hnew_; clear hg_ hnew_; (first | rw [← Ny249.out] at ho6 | (simp only [Int.reduceToNat] at ho6; rw [← Ny249.out] at ho6)); refine ax2 (Kd.R_lower ho6 (below_size bel)) (below_step bel hb) ?_; clear HB; intro HO251 HB; clear hb ho6; obtain ⟨Ao7, co7, eo7⟩ := Kd.R_slice HO251.out; subst eo7) | ((with_reducible refine gate_callee (f := 30) rfl ?_); refine goesL_ (some 20) rfl rfl Try.func30 (by kernel_rfl) rfl #[.slice Ao7 y249.length co7] rfl ga ?_; (with_reducible refine (soft_nan.calls k _ _ y249 t252 t253 true _ ?side1 ?side2 A3.out).mono ?_); (case side1 => exact ks HO251); (case side2 => exact (Kd.R_reads' HO251.out).2.1); rintro e w' ⟨rfl, ⟨nd, rfl⟩⟩; refine ⟨_, rfl, ?_⟩))
  go_ret2
  exact ⟨er, bel⟩
 ·
  replace c4 := Bool.eq_false_iff.mpr c4
  subst c4
  rw [if_neg (show ¬ (false = true) by decide)] at H
  obtain ⟨t255, A80, H⟩ := Option.bind_eq_some_iff.mp H
  (try dsimp -simprocs only at H)
  have A8 := Aside0.mk A80
  clear A80
  obtain ⟨t256, A90, H⟩ := Option.bind_eq_some_iff.mp H
  (try dsimp -simprocs only at H)
  have A9 := Aside0.mk A90
  clear A90
  obtain ⟨t257, A100, H⟩ := Option.bind_eq_some_iff.mp H
  (try dsimp -simprocs only at H)
  have A10 := Aside0.mk A100
  clear A100
  obtain ⟨t258, A110, H⟩ := Option.bind_eq_some_iff.mp H
  (try dsimp -simprocs only at H)
  have A11 := Aside0.mk A110
  clear A110
  have HC12 := Aside0.mk H
  clear H
  go_enter Try.func21, Try.ntmps21
  go_upto_region 6 with (first | ((with_reducible refine gate_dst (N := 19) rfl ?_); refine Kd.R_lit (Kd.int .u64) _ 22 ?hg (N := 19) ?hd (xs := ([a0, a1] : List Int)) (inner := [.int .u64 a0, .int .u64 a1]) (ok := fun _ => True) (okp := fun _ => True) ?hr ?hp (fun _ hk => hk) trivial (Below.refl _ _) (Nat.le_refl _) (by simp) ?_; (case hd => rfl); (case hg => rfl); (case hr => first | (go_simp; done) | (go_simp; rfl)); (case hp => exact (Reps.one (show Kd.M (Kd.int .u64) _ _ _ a0 [.int .u64 a0] from rfl) (Reps.one (show Kd.M (Kd.int .u64) _ _ _ a1 [.int .u64 a1] from rfl) (Reps.none _ _)))); intro v250 w13 ho14 hb hg_ hnew_; clear hg_ hnew_; (first | rw [← Ny249.out] at ho14 | (simp only [Int.reduceToNat] at ho14; rw [← Ny249.out] at ho14)); refine ax2 (Kd.R_lower ho14 (below_size bel)) (below_step bel hb) ?_; clear HB; intro HO251 HB; clear hb ho14; obtain ⟨Ao15, co15, eo15⟩ := Kd.R_slice HO251.out; subst eo15) | ((with_reducible refine gate_callee (f := 30) rfl ?_); refine goesL_ (some 20) rfl rfl Try.func30 (by kernel_rfl) rfl #[.slice Ao15 y249.length co15] rfl ga ?_; (with_reducible refine (soft_nan.calls k _ _ y249 t252 t253 false _ ?side1 ?side2 A3.out).mono ?_); (case side1 => exact ks HO251); (case side2 => exact (Kd.R_reads' HO251.out).2.1); rintro e w' ⟨rfl, ⟨nd, rfl⟩⟩; refine ⟨_, rfl, ?_⟩) | ((with_reducible refine gate_callee (f := 19) rfl ?_); refine goesL_ (some 28) rfl rfl Try.func19 (by kernel_rfl) rfl #[.int .u64 a0] rfl ga ?_; (with_reducible refine (word_Neg.calls a0 t255 _ A8.out).mono ?_); rintro e w' ⟨rfl, ⟨nd, rfl⟩⟩; refine ⟨_, rfl, ?_⟩) | ((with_reducible refine gate_callee (f := 19) rfl ?_); refine goesL_ (some 30) rfl rfl Try.func19 (by kernel_rfl) rfl #[.int .u64 a1] rfl ga ?_; (with_reducible refine (word_Neg.calls a1 t256 _ A9.out).mono ?_); rintro e w' ⟨rfl, ⟨nd, rfl⟩⟩; refine ⟨_, rfl, ?_⟩) | ((with_reducible refine gate_callee (f := 23) rfl ?_); refine goesL_ (some 33) rfl rfl Try.func23 (by kernel_rfl) rfl #[.int .u64 a0] rfl ga ?_; (with_reducible refine (word_Kind.calls k a0 t257 _ A10.out).mono ?_); rintro e w' ⟨rfl, ⟨nd, rfl⟩⟩; refine ⟨_, rfl, ?_⟩) | ((with_reducible refine gate_callee (f := 23) rfl ?_); refine goesL_ (some 35) rfl rfl Try.func23 (by kernel_rfl) rfl #[.int .u64 a1] rfl ga ?_; (with_reducible refine (word_Kind.calls k a1 t258 _ A11.out).mono ?_); rintro e w' ⟨rfl, ⟨nd, rfl⟩⟩; refine ⟨_, rfl, ?_⟩))
  (try simp only [Act.put, sa0, sa1, sa2])
  go_cut [9, 36] (fun v9 v36 wc => ∃ (kq : Nat) (x9_11 : Bool) (x36_11 : Bool), v9 = .bool x9_11 ∧ v36 = .bool x36_11 ∧ Aside0 (soft_Mul.j0 kq a0 a1 x9_11 t257 t258 x36_11 = some (r1, r2)) ∧ Aside0 (kq ≤ k) ∧ Aside0 (Below w.heap.size w wc))
  case first =>
   have H := HC12.out
   clear HC12
   by_cases c16 : t257 = 4
   ·
    rw [if_pos c16] at H
    have c16b0 : (t257 == 4) = true := beq_iff_eq.mpr c16
    have c16b1 : (t257 != 4) = false := bne_eq_false_iff_eq.mpr c16
    clear c16
    (first | rw [c16b0] | (simp only [i64_w, i32_w]; rw [c16b0]) | skip)
    by_cases c17 : t258 = 1
    ·
     rw [if_pos c17] at H
     have c17b0 : (t258 == 1) = true := beq_iff_eq.mpr c17
     have c17b1 : (t258 != 1) = false := bne_eq_false_iff_eq.mpr c17
     clear c17
     have H' := Aside0.mk H
     clear H
     go_wp2
     go_meet
     case rel => exact ⟨_, ((t255 != t256)), (true), (by first | rfl | (simp; done) | (simp [*]; done)), (by first | rfl | (simp; done) | (simp [*]; done)), H', ⟨by first | omega | exact Nat.le_refl _⟩, ⟨bel⟩⟩
    ·
     rw [if_neg c17] at H
     have c17b0 : (t258 == 1) = false := beq_eq_false_iff_ne.mpr c17
     have c17b1 : (t258 != 1) = true := bne_iff_ne.mpr c17
     by_cases c18 : t257 = 1
     rotate_left
     ·
      rw [if_neg c18] at H
      have c18b0 : (t257 == 1) = false := beq_eq_false_iff_ne.mpr c18
      have c18b1 : (t257 != 1) = true := bne_iff_ne.mpr c18
      have H' := Aside0.mk H
      clear H
      go_wp2
      go_meet
      case rel => exact ⟨_, ((t255 != t256)), (false), (by first | rfl | (simp; done) | (simp [*]; done)), (by first | rfl | (simp; done) | (simp [*]; done)), H', ⟨by first | omega | exact Nat.le_refl _⟩, ⟨bel⟩⟩
     rw [if_pos c18] at H
     have c18b0 : (t257 == 1) = true := beq_iff_eq.mpr c18
     have c18b1 : (t257 != 1) = false := bne_eq_false_iff_eq.mpr c18
     clear c18
     have H' := Aside0.mk H
     clear H
     go_wp2
     go_meet
     case rel => exact ⟨_, ((t255 != t256)), ((t258 == 4)), (by first | rfl | (simp; done) | (simp [*]; done)), (by first | rfl | (simp; done) | (simp [*]; done)), H', ⟨by first | omega | exact Nat.le_refl _⟩, ⟨bel⟩⟩
   ·
    rw [if_neg c16] at H
    have c16b0 : (t257 == 4) = false := beq_eq_false_iff_ne.mpr c16
    have c16b1 : (t257 != 4) = true := bne_iff_ne.mpr c16
    (first | rw [c16b0] | (simp only [i64_w, i32_w]; rw [c16b0]) | skip)
    by_cases c19 : t257 = 1
    rotate_left
    ·
     rw [if_neg c19] at H
     have c19b0 : (t257 == 1) = false := beq_eq_false_iff_ne.mpr c19
     have c19b1 : (t257 != 1) = true := bne_iff_ne.mpr c19
     have H' := Aside0.mk H
     clear H
     go_wp2
     go_meet
     case rel => exact ⟨_, ((t255 != t256)), (false), (by first | rfl | (simp; done) | (simp [*]; done)), (by first | rfl | (simp; done) | (simp [*]; done)), H', ⟨by first | omega | exact Nat.le_refl _⟩, ⟨bel⟩⟩
    rw [if_pos c19] at H
    have c19b0 : (t257 == 1) = true := beq_iff_eq.mpr c19
    have c19b1 : (t257 != 1) = false := bne_eq_false_iff_eq.mpr c19
    clear c19
    have H' := Aside0.mk H
    clear H
    go_wp2
    go_meet
    case rel => exact ⟨_, ((t255 != t256)), ((t258 == 4)), (by first | rfl | (simp; done) | (simp [*]; done)), (by first | rfl | (simp; done) | (simp [*]; done)), H', ⟨by first | omega | exact Nat.le_refl _⟩, ⟨bel⟩⟩
  case rest =>
   clear HC12
   try clear c1
   try clear c2
   try clear p2
   try clear c3
   try clear c4
   try clear c16
   try clear c16b0
   try clear c16b1
   try clear c17
   try clear c17b0
   try clear c17b1
   try clear c18
   try clear c18b0
   try clear c18b1
   try clear c19
   try clear c19b0
   try clear c19b1
   obtain ⟨kq, x9_11, x36_11, rfl, rfl, HA, HJ11, HB⟩ := hcut
   cases kq with
   | zero => exact absurd HA.out (by simp [soft_Mul.j0])
   | succ kj11 =>
    have H := HA.out
    clear HA
    simp only [soft_Mul.j0] at H
    by_cases c20 : x36_11 = true
    ·
     subst c20
     rw [if_pos rfl] at H
     simp only [Option.some.injEq, Prod.mk.injEq] at H
     obtain ⟨rfl, rfl⟩ := H
     go_wp2
     go_ret2
     exact ⟨er, bel⟩
    ·
     replace c20 := Bool.eq_false_iff.mpr c20
     subst c20
     rw [if_neg (show ¬ (false = true) by decide)] at H
     by_cases c21 : t257 = 4
     ·
      rw [if_pos c21] at H
      have c21b0 : (t257 == 4) = true := beq_iff_eq.mpr c21
      have c21b1 : (t257 != 4) = false := bne_eq_false_iff_eq.mpr c21
      clear c21
      obtain ⟨t259, A220, H⟩ := Option.bind_eq_some_iff.mp H
      (try dsimp -simprocs only at H)
      have A22 := Aside0.mk A220
      clear A220
      simp only [Option.some.injEq, Prod.mk.injEq] at H
      obtain ⟨rfl, rfl⟩ := H
      go_wp2_with (first | ((with_reducible refine gate_callee (f := 48) rfl ?_); refine goesL_ (some 59) rfl rfl Try.func48 (by kernel_rfl) rfl #[.bool x9_11, .int .i64 2047, .int .u64 0] rfl ga ?_; (with_reducible refine (word_Make.calls x9_11 2047 0 t259 _ A22.out).mono ?_); rintro e w' ⟨rfl, ⟨nd, rfl⟩⟩; refine ⟨_, rfl, ?_⟩))
      go_ret2
      exact ⟨er, bel⟩
     ·
      rw [if_neg c21] at H
      have c21b0 : (t257 == 4) = false := beq_eq_false_iff_ne.mpr c21
      have c21b1 : (t257 != 4) = true := bne_iff_ne.mpr c21
      by_cases c23 : t258 = 4
      ·
       rw [if_pos c23] at H
       have c23b0 : (t258 == 4) = true := beq_iff_eq.mpr c23
       have c23b1 : (t258 != 4) = false := bne_eq_false_iff_eq.mpr c23
       clear c23
       obtain ⟨t260, A240, H⟩ := Option.bind_eq_some_iff.mp H
       (try dsimp -simprocs only at H)
       have A24 := Aside0.mk A240
       clear A240
       simp only [Option.some.injEq, Prod.mk.injEq] at H
       obtain ⟨rfl, rfl⟩ := H
       go_wp2_with (first | ((with_reducible refine gate_callee (f := 48) rfl ?_); refine goesL_ (some 59) rfl rfl Try.func48 (by kernel_rfl) rfl #[.bool x9_11, .int .i64 2047, .int .u64 0] rfl ga ?_; (with_reducible refine (word_Make.calls x9_11 2047 0 t260 _ A24.out).mono ?_); rintro e w' ⟨rfl, ⟨nd, rfl⟩⟩; refine ⟨_, rfl, ?_⟩))
       go_ret2
       exact ⟨er, bel⟩
      ·
       rw [if_neg c23] at H
       have c23b0 : (t258 == 4) = false := beq_eq_false_iff_ne.mpr c23
       have c23b1 : (t258 != 4) = true := bne_iff_ne.mpr c23
       obtain ⟨⟨t261, t262⟩, A250, H⟩ := Option.bind_eq_some_iff.mp H
       (try dsimp -simprocs only at H)
       have A25 := Aside0.mk A250
       clear A250
       obtain ⟨⟨t263, t264⟩, A260, H⟩ := Option.bind_eq_some_iff.mp H
       (try dsimp -simprocs only at H)
       have A26 := Aside0.mk A260
       clear A260
       obtain ⟨⟨t265, t266⟩, A270, H⟩ := Option.bind_eq_some_iff.mp H
       (try dsimp -simprocs only at H)
       have A27 := Aside0.mk A270
       clear A270
       obtain ⟨⟨t267, t268⟩, A280, H⟩ := Option.bind_eq_some_iff.mp H
       (try dsimp -simprocs only at H)
       have A28 := Aside0.mk A280
       clear A280
       simp only [Option.some.injEq, Prod.mk.injEq] at H
       obtain ⟨rfl, rfl⟩ := H
       go_wp2_with (first | ((with_reducible refine gate_callee (f := 31) rfl ?_); refine goesL_ (some 62) rfl rfl Try.func31 (by kernel_rfl) rfl #[.int .u64 a0] rfl ga ?_; (with_reducible refine (word_Parts.calls kj11 a0 t261 t262 _ A25.out).mono ?_); rintro e w' ⟨rfl, ⟨nd, rfl⟩⟩; refine ⟨_, rfl, ?_⟩) | ((with_reducible refine gate_callee (f := 31) rfl ?_); refine goesL_ (some 67) rfl rfl Try.func31 (by kernel_rfl) rfl #[.int .u64 a1] rfl ga ?_; (with_reducible refine (word_Parts.calls kj11 a1 t263 t264 _ A26.out).mono ?_); rintro e w' ⟨rfl, ⟨nd, rfl⟩⟩; refine ⟨_, rfl, ?_⟩) | ((with_reducible refine gate_callee (f := 56) rfl ?_); refine goesL_ (some 73) rfl rfl Try.func56 (by kernel_rfl) rfl #[.int .u64 t261, .int .u64 t263] rfl ga ?_; (with_reducible refine (wide_Mul.calls t261 t263 t265 t266 _ A27.out).mono ?_); rintro e w29 ⟨rfl, hb⟩; refine ⟨_, rfl, ?_⟩; refine ax1 (below_step bel hb) ?_; clear HB; intro HB; (try clear hb)) | ((with_reducible refine gate_callee (f := 35) rfl ?_); refine goesL_ (some 77) rfl rfl Try.func35 (by kernel_rfl) rfl #[.bool x9_11, .agg #[.int .u64 t265, .int .u64 t266], .int .i64 (wrap64 (t262 + t264)), .bool false] rfl ga ?_; (with_reducible refine (round_Round.calls kj11 x9_11 t265 t266 (wrap64 (t262 + t264)) false t267 t268 _ A28.out).mono ?_); rintro e w30 ⟨rfl, hb⟩; refine ⟨_, rfl, ?_⟩; refine ax1 (below_step bel hb) ?_; clear HB; intro HB; (try clear hb)))
       go_ret2
       exact ⟨er, bel⟩

/-- A state of type 38 at block g of W; what its slices lead to came in by w0. -/
def IsS38 (w0 W : World) (g : Nat) (f0 : Int) : Prop := W.heap[g]? = some (.cells #[.int .u8 f0] 38 (0, 0)) ∧ w0.heap.size ≤ g
theorem IsS38.grown {w0 W : World} {g : Nat} {f0 : Int} {W1 : World} {row : Option Nat} (h : IsS38 w0 W g f0) (hw : W.grownBy W1 row) (hne : some g ≠ row) : IsS38 w0 W1 g f0 := by
 obtain ⟨hb, hg⟩ := h
 exact ⟨blk_grown hb hw hne, hg⟩
theorem IsS38.own_neN {w0 W : World} {g : Nat} {f0 : Int} {α : Type} {d : Kd α} {e : Nat} {base : Nat} {ok : Nat → Prop} {v : Value} {xs : List α} (h : IsS38 w0 W g f0) (ho : Kd.N d e W base ok v xs) (ht : e ≠ 38) : some g ≠ v.ownBlock := by
 obtain ⟨hb, hg⟩ := h
 exact Kd.N_ne ho hb ht
theorem IsS38.fresh {w0 W : World} {g : Nat} {f0 : Int} (h : IsS38 w0 W g f0) : ∀ k, W.heap.size ≤ k → k ≠ g := by
 obtain ⟨hb, hg⟩ := h
 exact Kd.freshB hb
theorem IsS38.kept {w0 W : World} {g : Nat} {f0 : Int} {W1 : World} {S : Nat → Prop} (h : IsS38 w0 W g f0) (hk : Kept W W1 S) (hne : ¬ S g) : IsS38 w0 W1 g f0 := by
 obtain ⟨hb, hg⟩ := h
 exact ⟨blk_kept hb hk hne, hg⟩
theorem IsS38.below {w0 W : World} {g : Nat} {f0 : Int} {W1 : World} (h : IsS38 w0 W g f0) (hw : Below W.heap.size W W1) : IsS38 w0 W1 g f0 := h.grown (grown_of_below hw none) (by simp)
theorem IsS38.alloc {w0 W : World} {g : Nat} {f0 : Int} (h : IsS38 w0 W g f0) (o : Obj) : IsS38 w0 (W.alloc o) g f0 := h.below (below_alloc (Below.refl _ _) o)
theorem IsS38.drewN {w0 W : World} {g : Nat} {f0 : Int} (h : IsS38 w0 W g f0) (m : Nat) : IsS38 w0 (W.drewN m) g f0 := h
theorem IsS38.drew {w0 W : World} {g : Nat} {f0 : Int} (h : IsS38 w0 W g f0) : IsS38 w0 W.drew g f0 := h
theorem IsS38.at_ {w0 W : World} {g : Nat} {f0 : Int} {w' : World} {m : Nat} (hq : W.drewN m = w') (h : IsS38 w0 W g f0) : IsS38 w0 w' g f0 := by subst hq; exact IsS38.drewN h m
theorem IsS38.apart {w0 W : World} {g : Nat} {f0 : Int} {α : Type} {d : Kd α} {e : Nat} {base : Nat} {ok : Nat → Prop} {v : Value} {xs : List α} (h : IsS38 w0 W g f0) (ho : d.R e W base ok v xs) (ht : ∀ q, q ∈ e :: d.E → q ≠ 38) : d.R e W base (fun k => ok k ∧ k ≠ g) v xs := by
 obtain ⟨hb, hg⟩ := h
 exact Kd.R_types ho hb ht
theorem IsS38.own_ne {w0 W : World} {g : Nat} {f0 : Int} {α : Type} {d : Kd α} {e : Nat} {base : Nat} {ok : Nat → Prop} {v : Value} {xs : List α} (h : IsS38 w0 W g f0) (ho : d.R e W base ok v xs) (ht : e ≠ 38) : some g ≠ v.ownBlock := by
 obtain ⟨hb, hg⟩ := h
 exact Kd.R_ne ho hb ht
theorem IsS38.apartQ {w0 W : World} {g : Nat} {f0 : Int} {α : Type} {d : Kd α} {e : Nat} {base : Nat} {ok : Nat → Prop} {v : Value} {xs : List α} (h : IsS38 w0 W g f0) (ho : d.Q e W base ok v xs) (ht : ∀ q, q ∈ e :: d.E → q ≠ 38) : d.Q e W base (fun k => ok k ∧ k ≠ g) v xs := by
 obtain ⟨hb, hg⟩ := h
 exact Kd.Q_types ho hb ht
theorem IsS38.own_neQ {w0 W : World} {g : Nat} {f0 : Int} {α : Type} {d : Kd α} {e : Nat} {base : Nat} {ok : Nat → Prop} {v : Value} {xs : List α} (h : IsS38 w0 W g f0) (ho : d.Q e W base ok v xs) (ht : e ≠ 38) : some g ≠ v.ownBlock := by
 obtain ⟨hb, hg⟩ := h
 exact Kd.Q_ne ho hb ht
theorem IsS38.apartS {w0 W : World} {g : Nat} {f0 : Int} {α : Type} {d : Kd α} {e : Nat} {base : Nat} {ok : Nat → Prop} {v : Value} {xs : List α} (h : IsS38 w0 W g f0) (ho : d.S e W base ok v xs) (ht : ∀ q, q ∈ e :: d.E → q ≠ 38) : d.S e W base (fun k => ok k ∧ k ≠ g) v xs := by
 obtain ⟨hb, hg⟩ := h
 exact Kd.S_types ho hb ht
theorem IsS38.own_neS {w0 W : World} {g : Nat} {f0 : Int} {α : Type} {d : Kd α} {e : Nat} {base : Nat} {ok : Nat → Prop} {v : Value} {xs : List α} (h : IsS38 w0 W g f0) (ho : d.S e W base ok v xs) (ht : e ≠ 38) : some g ≠ v.ownBlock := by
 obtain ⟨hb, hg⟩ := h
 exact Kd.S_ne ho hb ht
theorem IsS38.lt {w0 W : World} {g : Nat} {f0 : Int} (h : IsS38 w0 W g f0) : g < W.heap.size := by
 obtain ⟨hb, hg⟩ := h
 exact blk_lt hb
theorem IsS38.ge {w0 W : World} {g : Nat} {f0 : Int} (h : IsS38 w0 W g f0) : w0.heap.size ≤ g := by
 obtain ⟨hb, hg⟩ := h
 exact hg
theorem IsS38.ne_blk {w0 W : World} {g : Nat} {f0 : Int} {a : Nat} {cs : Array Value} {t : TypeId} {fr : Nat × Nat} (h : IsS38 w0 W g f0) (hb2 : W.heap[a]? = some (.cells cs t fr)) (ht : t ≠ 38) : g ≠ a := by
 obtain ⟨hb, hg⟩ := h
 rintro rfl
 rw [hb] at hb2
 injection hb2 with hb2
 injection hb2 with _ ht2
 exact ht ht2.symm
theorem IsS38.far {w0 W : World} {g : Nat} {f0 : Int} {p : Addr} (h : IsS38 w0 W g f0) (hne : g ≠ p.block) (u : Value) : IsS38 w0 (W.setCell p u) g f0 := by
 obtain ⟨hb, hg⟩ := h
 exact ⟨blk_far hb hne u, hg⟩
theorem cellS38_0 {W : World} {g : Nat} {f0 : Int} (h : W.heap[g]? = some (.cells #[.int .u8 f0] 38 (0, 0))) : W.cell? ⟨g, 0, none⟩ = some (.int .u8 f0) := (blk_cell h 0).trans rfl
theorem IsS38.set_0 {w0 W : World} {g : Nat} {f0 : Int} (h : IsS38 w0 W g f0) (x : Int) : IsS38 w0 (W.setCell ⟨g, 0, none⟩ (.int .u8 x)) g x := by
 obtain ⟨hb, hg⟩ := h
 exact ⟨by simpa using blk_set hb 0 (.int .u8 x), hg⟩
theorem IsS38.new (w0 W : World) (f0 : Int) (hB : Below w0.heap.size w0 W) : IsS38 w0 (W.alloc (.cells #[.int .u8 f0] 38)) W.heap.size f0 := ⟨by simpa using heap_alloc_new W _, hB.size⟩

/-! ### soft_Calc_note: function 59 -/
def soft_Calc_note.f (s0_0 : Int) (a1 : Int) (a2 : Int) : Option (Int × Int) := some (a1, Go.bits .or .u8 s0_0 a2)
set_option maxHeartbeats 8000000 in
set_option maxRecDepth 100000 in
theorem soft_Calc_note.calls (g : Nat) (s0_0 : Int) (a1 : Int) (a2 : Int) (r1 : Int) (r2 : Int) (w0 w : World) (hI : IsS38 w0 w g s0_0) (hB : Below w0.heap.size w0 w) (h : soft_Calc_note.f s0_0 a1 a2 = some (r1, r2)) :
  Calls Try.prog 59 #[.pointer (some ⟨g, 0, none⟩), .int .u64 a1, .int .u8 a2] w fun e w' => e = .returned (.int .u64 r1) ∧ IsS38 w0 w' g r2 ∧ Below w0.heap.size w0 w' ∧ KeepBut w w' g none := by
 have HI0 := Aside0.mk hI
 have HK := Aside0.mk (KeepBut.refl w g none)
 have HL := Aside0.mk hB.size
 clear hI
 have HW0 := Aside0.mk hB.size
 have HB := Aside0.mk hB
 clear hB
 have H : (some (a1, Go.bits .or .u8 s0_0 a2)) = some (r1, r2) := h
 clear h
 simp only [Option.some.injEq, Prod.mk.injEq] at H
 obtain ⟨rfl, rfl⟩ := H
 obtain ⟨HGz4, hgz4⟩ := HI0.out
 have hcz4_0 := cellS38_0 HGz4
 have hfz4_0 := blk_frozen HGz4 0
 clear HGz4 hgz4
 go_enter Try.func59, Try.ntmps59
 go_wp2
 go_ret
 exact ⟨er, by repeat (first | (with_reducible first | exact HI0.out | apply IsS38.alloc | apply IsS38.drewN | apply IsS38.drew | apply IsS38.set_0) | exact HI0.out), by repeat (first | (with_reducible first | exact HB.out | apply below_alloc | apply pw_below_drewN | apply below_drew1 | refine below_set ?_ (IsS38.ge HI0.out)) | exact HB.out), by repeat (first | (with_reducible first | exact HK.out | apply KeepBut.set_ | apply keep_drewN | apply keep_drew | apply keep_alloc) | exact HK.out)⟩

/-! ### soft_Calc_note_nil: function 59 -/
def soft_Calc_note_nil.f  (a1 : Int) (a2 : Int) : Option (Int) := some a1
set_option maxHeartbeats 8000000 in
set_option maxRecDepth 100000 in
theorem soft_Calc_note_nil.calls  (a1 : Int) (a2 : Int) (r : Int) (w : World) (h : soft_Calc_note_nil.f a1 a2 = some r) :
  Calls Try.prog 59 #[.pointer none, .int .u64 a1, .int .u8 a2] w fun e w' => e = .returned (.int .u64 r) ∧ Drawn0 w w' := by
 have H : (some a1) = some r := h
 clear h
 obtain rfl := Option.some.inj H
 go_enter Try.func59, Try.ntmps59
 go_wp2
 go_ret
 exact ⟨by first | rfl | (simp; done) | (simp [*]; done), by repeat (first | exact Drawn0.refl _ | apply Drawn0.step)⟩

/-! ### soft_Calc_Add: function 25 -/
def soft_Calc_Add.f (k : Nat) (s0_0 : Int) (a1 : Int) (a2 : Int) : Option (Int × Int) := (soft_Add.f k a1 a2).bind fun bt269 => ((soft_Calc_note.f s0_0 bt269.1 bt269.2).bind fun bt271 => (some (bt271.1, bt271.2)))
theorem soft_Calc_Add.mono : ∀ a0 a1 a2 k, LeO (soft_Calc_Add.f k a0 a1 a2) (soft_Calc_Add.f (k + 1) a0 a1 a2) := by
 intro a0 a1 a2 k
 unfold soft_Calc_Add.f
 repeat' with_reducible first | apply soft_Add.mono | exact LeO.refl _ | exact LeO.none _ | refine LeO.ite ?_ ?_ | refine LeO.bind ?_ (fun _ => ?_)
set_option maxHeartbeats 8000000 in
set_option maxRecDepth 100000 in
theorem soft_Calc_Add.calls (k : Nat) (g : Nat) (s0_0 : Int) (a1 : Int) (a2 : Int) (r1 : Int) (r2 : Int) (w0 w : World) (hI : IsS38 w0 w g s0_0) (hB : Below w0.heap.size w0 w) (h : soft_Calc_Add.f k s0_0 a1 a2 = some (r1, r2)) :
  Calls Try.prog 25 #[.pointer (some ⟨g, 0, none⟩), .int .u64 a1, .int .u64 a2] w fun e w' => e = .returned (.int .u64 r1) ∧ IsS38 w0 w' g r2 ∧ Below w0.heap.size w0 w' ∧ KeepBut w w' g none := by
 have HI0 := Aside0.mk hI
 have HK := Aside0.mk (KeepBut.refl w g none)
 have HL := Aside0.mk hB.size
 clear hI
 have HW0 := Aside0.mk hB.size
 have HB := Aside0.mk hB
 clear hB
 have H : ((soft_Add.f k a1 a2).bind fun bt269 => ((soft_Calc_note.f s0_0 bt269.1 bt269.2).bind fun bt271 => (some (bt271.1, bt271.2)))) = some (r1, r2) := h
 clear h
 obtain ⟨⟨t269, t270⟩, A40, H⟩ := Option.bind_eq_some_iff.mp H
 (try dsimp -simprocs only at H)
 have A4 := Aside0.mk A40
 clear A40
 obtain ⟨⟨t271, t272⟩, A50, H⟩ := Option.bind_eq_some_iff.mp H
 (try dsimp -simprocs only at H)
 have A5 := Aside0.mk A50
 clear A50
 simp only [Option.some.injEq, Prod.mk.injEq] at H
 obtain ⟨rfl, rfl⟩ := H
 go_enter Try.func25, Try.ntmps25
 go_wp2_with (first | ((with_reducible refine gate_callee (f := 12) rfl ?_); refine goesL_ (some 10) rfl rfl Try.func12 (by kernel_rfl) rfl #[.int .u64 a1, .int .u64 a2] rfl ga ?_; (with_reducible refine (soft_Add.calls k a1 a2 t269 t270 _ A4.out).mono ?_); rintro e w6 ⟨rfl, hb⟩; refine ⟨_, rfl, ?_⟩; refine ax3 (IsS38.below (by repeat (first | (with_reducible first | exact HI0.out | apply IsS38.alloc | apply IsS38.drewN | apply IsS38.drew | apply IsS38.set_0) | exact HI0.out)) hb) (KeepBut.trans (by repeat (first | (with_reducible first | exact HK.out | apply KeepBut.set_ | apply keep_drewN | apply keep_drew | apply keep_alloc) | exact HK.out)) (KeepBut.of_below hb g none) (.inl rfl)) (below_step (by repeat (first | (with_reducible first | exact HB.out | apply below_alloc | apply pw_below_drewN | apply below_drew1 | refine below_set ?_ (IsS38.ge HI0.out)) | exact HB.out)) hb) ?_; clear HI0; clear HK; clear HB; intro HI0 HK HB; (try clear hb)) | ((with_reducible refine gate_callee (f := 59) rfl ?_); refine goesL_ (some 13) rfl rfl Try.func59 (by kernel_rfl) rfl #[.pointer (some ⟨g, 0, none⟩), .int .u64 t269, .int .u8 t270] rfl ga ?_; (with_reducible refine (soft_Calc_note.calls g s0_0 t269 t270 t271 t272 w0 _ ?side1 ?side2 A5.out).mono ?_); (case side1 => repeat (first | (with_reducible first | exact HI0.out | apply IsS38.alloc | apply IsS38.drewN | apply IsS38.drew | apply IsS38.set_0) | exact HI0.out)); (case side2 => repeat (first | (with_reducible first | exact HB.out | apply below_alloc | apply pw_below_drewN | apply below_drew1 | refine below_set ?_ (IsS38.ge HI0.out)) | exact HB.out)); rintro e w7 ⟨rfl, hi, hb, hk⟩; refine ⟨_, rfl, ?_⟩; refine ax3 (KeepBut.trans (by repeat (first | (with_reducible first | exact HK.out | apply KeepBut.set_ | apply keep_drewN | apply keep_drew | apply keep_alloc) | exact HK.out)) hk (.inl rfl)) hb hi ?_; clear HK; clear HB; clear HI0; intro HK HB HI0; (try clear hb)))
 go_ret
 exact ⟨er, by repeat (first | (with_reducible first | exact HI0.out | apply IsS38.alloc | apply IsS38.drewN | apply IsS38.drew | apply IsS38.set_0) | exact HI0.out), by repeat (first | (with_reducible first | exact HB.out | apply below_alloc | apply pw_below_drewN | apply below_drew1 | refine below_set ?_ (IsS38.ge HI0.out)) | exact HB.out), by repeat (first | (with_reducible first | exact HK.out | apply KeepBut.set_ | apply keep_drewN | apply keep_drew | apply keep_alloc) | exact HK.out)⟩

/-! ### soft_Calc_Add_nil: function 25 -/
def soft_Calc_Add_nil.f (k : Nat)  (a1 : Int) (a2 : Int) : Option (Int) := (soft_Add.f k a1 a2).bind fun bt273 => ((soft_Calc_note_nil.f bt273.1 bt273.2).bind fun t275 => (some t275))
theorem soft_Calc_Add_nil.mono : ∀ a0 a1 k, LeO (soft_Calc_Add_nil.f k a0 a1) (soft_Calc_Add_nil.f (k + 1) a0 a1) := by
 intro a0 a1 k
 unfold soft_Calc_Add_nil.f
 repeat' with_reducible first | apply soft_Add.mono | exact LeO.refl _ | exact LeO.none _ | refine LeO.ite ?_ ?_ | refine LeO.bind ?_ (fun _ => ?_)
set_option maxHeartbeats 8000000 in
set_option maxRecDepth 100000 in
theorem soft_Calc_Add_nil.calls (k : Nat)  (a1 : Int) (a2 : Int) (r : Int) (w : World) (h : soft_Calc_Add_nil.f k a1 a2 = some r) :
  Calls Try.prog 25 #[.pointer none, .int .u64 a1, .int .u64 a2] w fun e w' => e = .returned (.int .u64 r) ∧ Below w.heap.size w w' := by
 have HB := Aside0.mk (Below.refl w.heap.size w)
 have H : ((soft_Add.f k a1 a2).bind fun bt273 => ((soft_Calc_note_nil.f bt273.1 bt273.2).bind fun t275 => (some t275))) = some r := h
 clear h
 obtain ⟨⟨t273, t274⟩, A40, H⟩ := Option.bind_eq_some_iff.mp H
 (try dsimp -simprocs only at H)
 have A4 := Aside0.mk A40
 clear A40
 obtain ⟨t275, A50, H⟩ := Option.bind_eq_some_iff.mp H
 (try dsimp -simprocs only at H)
 have A5 := Aside0.mk A50
 clear A50
 obtain rfl := Option.some.inj H
 go_enter Try.func25, Try.ntmps25
 go_wp2_with (first | ((with_reducible refine gate_callee (f := 12) rfl ?_); refine goesL_ (some 10) rfl rfl Try.func12 (by kernel_rfl) rfl #[.int .u64 a1, .int .u64 a2] rfl ga ?_; (with_reducible refine (soft_Add.calls k a1 a2 t273 t274 _ A4.out).mono ?_); rintro e w6 ⟨rfl, hb⟩; refine ⟨_, rfl, ?_⟩; refine ax1 (below_step bel hb) ?_; clear HB; intro HB; (try clear hb)) | ((with_reducible refine gate_callee (f := 59) rfl ?_); refine goesL_ (some 13) rfl rfl Try.func59 (by kernel_rfl) rfl #[.pointer none, .int .u64 t273, .int .u8 t274] rfl ga ?_; (with_reducible refine (soft_Calc_note_nil.calls  t273 t274 t275 _ A5.out).mono ?_); rintro e w' ⟨rfl, ⟨nd, rfl⟩⟩; refine ⟨_, rfl, ?_⟩))
 go_ret
 exact ⟨er, bel⟩

/-! ### soft_Calc_Sub: function 26 -/
def soft_Calc_Sub.f (k : Nat) (s0_0 : Int) (a1 : Int) (a2 : Int) : Option (Int × Int) := (soft_Sub.f k a1 a2).bind fun bt276 => ((soft_Calc_note.f s0_0 bt276.1 bt276.2).bind fun bt278 => (some (bt278.1, bt278.2)))
theorem soft_Calc_Sub.mono : ∀ a0 a1 a2 k, LeO (soft_Calc_Sub.f k a0 a1 a2) (soft_Calc_Sub.f (k + 1) a0 a1 a2) := by
 intro a0 a1 a2 k
 unfold soft_Calc_Sub.f
 repeat' with_reducible first | apply soft_Sub.mono | exact LeO.refl _ | exact LeO.none _ | refine LeO.ite ?_ ?_ | refine LeO.bind ?_ (fun _ => ?_)
set_option maxHeartbeats 8000000 in
set_option maxRecDepth 100000 in
theorem soft_Calc_Sub.calls (k : Nat) (g : Nat) (s0_0 : Int) (a1 : Int) (a2 : Int) (r1 : Int) (r2 : Int) (w0 w : World) (hI : IsS38 w0 w g s0_0) (hB : Below w0.heap.size w0 w) (h : soft_Calc_Sub.f k s0_0 a1 a2 = some (r1, r2)) :
  Calls Try.prog 26 #[.pointer (some ⟨g, 0, none⟩), .int .u64 a1, .int .u64 a2] w fun e w' => e = .returned (.int .u64 r1) ∧ IsS38 w0 w' g r2 ∧ Below w0.heap.size w0 w' ∧ KeepBut w w' g none := by
 have HI0 := Aside0.mk hI
 have HK := Aside0.mk (KeepBut.refl w g none)
 have HL := Aside0.mk hB.size
 clear hI
 have HW0 := Aside0.mk hB.size
 have HB := Aside0.mk hB
 clear hB
 have H : ((soft_Sub.f k a1 a2).bind fun bt276 => ((soft_Calc_note.f s0_0 bt276.1 bt276.2).bind fun bt278 => (some (bt278.1, bt278.2)))) = some (r1, r2) := h
 clear h
 obtain ⟨⟨t276, t277⟩, A40, H⟩ := Option.bind_eq_some_iff.mp H
 (try dsimp -simprocs only at H)
 have A4 := Aside0.mk A40
 clear A40
 obtain ⟨⟨t278, t279⟩, A50, H⟩ := Option.bind_eq_some_iff.mp H
 (try dsimp -simprocs only at H)
 have A5 := Aside0.mk A50
 clear A50
 simp only [Option.some.injEq, Prod.mk.injEq] at H
 obtain ⟨rfl, rfl⟩ := H
 go_enter Try.func26, Try.ntmps26
 go_wp2_with (first | ((with_reducible refine gate_callee (f := 14) rfl ?_); refine goesL_ (some 10) rfl rfl Try.func14 (by kernel_rfl) rfl #[.int .u64 a1, .int .u64 a2] rfl ga ?_; (with_reducible refine (soft_Sub.calls k a1 a2 t276 t277 _ A4.out).mono ?_); rintro e w6 ⟨rfl, hb⟩; refine ⟨_, rfl, ?_⟩; refine ax3 (IsS38.below (by repeat (first | (with_reducible first | exact HI0.out | apply IsS38.alloc | apply IsS38.drewN | apply IsS38.drew | apply IsS38.set_0) | exact HI0.out)) hb) (KeepBut.trans (by repeat (first | (with_reducible first | exact HK.out | apply KeepBut.set_ | apply keep_drewN | apply keep_drew | apply keep_alloc) | exact HK.out)) (KeepBut.of_below hb g none) (.inl rfl)) (below_step (by repeat (first | (with_reducible first | exact HB.out | apply below_alloc | apply pw_below_drewN | apply below_drew1 | refine below_set ?_ (IsS38.ge HI0.out)) | exact HB.out)) hb) ?_; clear HI0; clear HK; clear HB; intro HI0 HK HB; (try clear hb)) | ((with_reducible refine gate_callee (f := 59) rfl ?_); refine goesL_ (some 13) rfl rfl Try.func59 (by kernel_rfl) rfl #[.pointer (some ⟨g, 0, none⟩), .int .u64 t276, .int .u8 t277] rfl ga ?_; (with_reducible refine (soft_Calc_note.calls g s0_0 t276 t277 t278 t279 w0 _ ?side1 ?side2 A5.out).mono ?_); (case side1 => repeat (first | (with_reducible first | exact HI0.out | apply IsS38.alloc | apply IsS38.drewN | apply IsS38.drew | apply IsS38.set_0) | exact HI0.out)); (case side2 => repeat (first | (with_reducible first | exact HB.out | apply below_alloc | apply pw_below_drewN | apply below_drew1 | refine below_set ?_ (IsS38.ge HI0.out)) | exact HB.out)); rintro e w7 ⟨rfl, hi, hb, hk⟩; refine ⟨_, rfl, ?_⟩; refine ax3 (KeepBut.trans (by repeat (first | (with_reducible first | exact HK.out | apply KeepBut.set_ | apply keep_drewN | apply keep_drew | apply keep_alloc) | exact HK.out)) hk (.inl rfl)) hb hi ?_; clear HK; clear HB; clear HI0; intro HK HB HI0; (try clear hb)))
 go_ret
 exact ⟨er, by repeat (first | (with_reducible first | exact HI0.out | apply IsS38.alloc | apply IsS38.drewN | apply IsS38.drew | apply IsS38.set_0) | exact HI0.out), by repeat (first | (with_reducible first | exact HB.out | apply below_alloc | apply pw_below_drewN | apply below_drew1 | refine below_set ?_ (IsS38.ge HI0.out)) | exact HB.out), by repeat (first | (with_reducible first | exact HK.out | apply KeepBut.set_ | apply keep_drewN | apply keep_drew | apply keep_alloc) | exact HK.out)⟩

/-! ### soft_Calc_Sub_nil: function 26 -/
def soft_Calc_Sub_nil.f (k : Nat)  (a1 : Int) (a2 : Int) : Option (Int) := (soft_Sub.f k a1 a2).bind fun bt280 => ((soft_Calc_note_nil.f bt280.1 bt280.2).bind fun t282 => (some t282))
theorem soft_Calc_Sub_nil.mono : ∀ a0 a1 k, LeO (soft_Calc_Sub_nil.f k a0 a1) (soft_Calc_Sub_nil.f (k + 1) a0 a1) := by
 intro a0 a1 k
 unfold soft_Calc_Sub_nil.f
 repeat' with_reducible first | apply soft_Sub.mono | exact LeO.refl _ | exact LeO.none _ | refine LeO.ite ?_ ?_ | refine LeO.bind ?_ (fun _ => ?_)
set_option maxHeartbeats 8000000 in
set_option maxRecDepth 100000 in
theorem soft_Calc_Sub_nil.calls (k : Nat)  (a1 : Int) (a2 : Int) (r : Int) (w : World) (h : soft_Calc_Sub_nil.f k a1 a2 = some r) :
  Calls Try.prog 26 #[.pointer none, .int .u64 a1, .int .u64 a2] w fun e w' => e = .returned (.int .u64 r) ∧ Below w.heap.size w w' := by
 have HB := Aside0.mk (Below.refl w.heap.size w)
 have H : ((soft_Sub.f k a1 a2).bind fun bt280 => ((soft_Calc_note_nil.f bt280.1 bt280.2).bind fun t282 => (some t282))) = some r := h
 clear h
 obtain ⟨⟨t280, t281⟩, A40, H⟩ := Option.bind_eq_some_iff.mp H
 (try dsimp -simprocs only at H)
 have A4 := Aside0.mk A40
 clear A40
 obtain ⟨t282, A50, H⟩ := Option.bind_eq_some_iff.mp H
 (try dsimp -simprocs only at H)
 have A5 := Aside0.mk A50
 clear A50
 obtain rfl := Option.some.inj H
 go_enter Try.func26, Try.ntmps26
 go_wp2_with (first | ((with_reducible refine gate_callee (f := 14) rfl ?_); refine goesL_ (some 10) rfl rfl Try.func14 (by kernel_rfl) rfl #[.int .u64 a1, .int .u64 a2] rfl ga ?_; (with_reducible refine (soft_Sub.calls k a1 a2 t280 t281 _ A4.out).mono ?_); rintro e w6 ⟨rfl, hb⟩; refine ⟨_, rfl, ?_⟩; refine ax1 (below_step bel hb) ?_; clear HB; intro HB; (try clear hb)) | ((with_reducible refine gate_callee (f := 59) rfl ?_); refine goesL_ (some 13) rfl rfl Try.func59 (by kernel_rfl) rfl #[.pointer none, .int .u64 t280, .int .u8 t281] rfl ga ?_; (with_reducible refine (soft_Calc_note_nil.calls  t280 t281 t282 _ A5.out).mono ?_); rintro e w' ⟨rfl, ⟨nd, rfl⟩⟩; refine ⟨_, rfl, ?_⟩))
 go_ret
 exact ⟨er, bel⟩

/-! ### soft_Calc_Mul: function 27 -/
def soft_Calc_Mul.f (k : Nat) (s0_0 : Int) (a1 : Int) (a2 : Int) : Option (Int × Int) := (soft_Mul.f k a1 a2).bind fun bt283 => ((soft_Calc_note.f s0_0 bt283.1 bt283.2).bind fun bt285 => (some (bt285.1, bt285.2)))
theorem soft_Calc_Mul.mono : ∀ a0 a1 a2 k, LeO (soft_Calc_Mul.f k a0 a1 a2) (soft_Calc_Mul.f (k + 1) a0 a1 a2) := by
 intro a0 a1 a2 k
 unfold soft_Calc_Mul.f
 repeat' with_reducible first | apply soft_Mul.mono | exact LeO.refl _ | exact LeO.none _ | refine LeO.ite ?_ ?_ | refine LeO.bind ?_ (fun _ => ?_)
set_option maxHeartbeats 8000000 in
set_option maxRecDepth 100000 in
theorem soft_Calc_Mul.calls (k : Nat) (g : Nat) (s0_0 : Int) (a1 : Int) (a2 : Int) (r1 : Int) (r2 : Int) (w0 w : World) (hI : IsS38 w0 w g s0_0) (hB : Below w0.heap.size w0 w) (h : soft_Calc_Mul.f k s0_0 a1 a2 = some (r1, r2)) :
  Calls Try.prog 27 #[.pointer (some ⟨g, 0, none⟩), .int .u64 a1, .int .u64 a2] w fun e w' => e = .returned (.int .u64 r1) ∧ IsS38 w0 w' g r2 ∧ Below w0.heap.size w0 w' ∧ KeepBut w w' g none := by
 have HI0 := Aside0.mk hI
 have HK := Aside0.mk (KeepBut.refl w g none)
 have HL := Aside0.mk hB.size
 clear hI
 have HW0 := Aside0.mk hB.size
 have HB := Aside0.mk hB
 clear hB
 have H : ((soft_Mul.f k a1 a2).bind fun bt283 => ((soft_Calc_note.f s0_0 bt283.1 bt283.2).bind fun bt285 => (some (bt285.1, bt285.2)))) = some (r1, r2) := h
 clear h
 obtain ⟨⟨t283, t284⟩, A40, H⟩ := Option.bind_eq_some_iff.mp H
 (try dsimp -simprocs only at H)
 have A4 := Aside0.mk A40
 clear A40
 obtain ⟨⟨t285, t286⟩, A50, H⟩ := Option.bind_eq_some_iff.mp H
 (try dsimp -simprocs only at H)
 have A5 := Aside0.mk A50
 clear A50
 simp only [Option.some.injEq, Prod.mk.injEq] at H
 obtain ⟨rfl, rfl⟩ := H
 go_enter Try.func27, Try.ntmps27
 go_wp2_with (first | ((with_reducible refine gate_callee (f := 21) rfl ?_); refine goesL_ (some 10) rfl rfl Try.func21 (by kernel_rfl) rfl #[.int .u64 a1, .int .u64 a2] rfl ga ?_; (with_reducible refine (soft_Mul.calls k a1 a2 t283 t284 _ A4.out).mono ?_); rintro e w6 ⟨rfl, hb⟩; refine ⟨_, rfl, ?_⟩; refine ax3 (IsS38.below (by repeat (first | (with_reducible first | exact HI0.out | apply IsS38.alloc | apply IsS38.drewN | apply IsS38.drew | apply IsS38.set_0) | exact HI0.out)) hb) (KeepBut.trans (by repeat (first | (with_reducible first | exact HK.out | apply KeepBut.set_ | apply keep_drewN | apply keep_drew | apply keep_alloc) | exact HK.out)) (KeepBut.of_below hb g none) (.inl rfl)) (below_step (by repeat (first | (with_reducible first | exact HB.out | apply below_alloc | apply pw_below_drewN | apply below_drew1 | refine below_set ?_ (IsS38.ge HI0.out)) | exact HB.out)) hb) ?_; clear HI0; clear HK; clear HB; intro HI0 HK HB; (try clear hb)) | ((with_reducible refine gate_callee (f := 59) rfl ?_); refine goesL_ (some 13) rfl rfl Try.func59 (by kernel_rfl) rfl #[.pointer (some ⟨g, 0, none⟩), .int .u64 t283, .int .u8 t284] rfl ga ?_; (with_reducible refine (soft_Calc_note.calls g s0_0 t283 t284 t285 t286 w0 _ ?side1 ?side2 A5.out).mono ?_); (case side1 => repeat (first | (with_reducible first | exact HI0.out | apply IsS38.alloc | apply IsS38.drewN | apply IsS38.drew | apply IsS38.set_0) | exact HI0.out)); (case side2 => repeat (first | (with_reducible first | exact HB.out | apply below_alloc | apply pw_below_drewN | apply below_drew1 | refine below_set ?_ (IsS38.ge HI0.out)) | exact HB.out)); rintro e w7 ⟨rfl, hi, hb, hk⟩; refine ⟨_, rfl, ?_⟩; refine ax3 (KeepBut.trans (by repeat (first | (with_reducible first | exact HK.out | apply KeepBut.set_ | apply keep_drewN | apply keep_drew | apply keep_alloc) | exact HK.out)) hk (.inl rfl)) hb hi ?_; clear HK; clear HB; clear HI0; intro HK HB HI0; (try clear hb)))
 go_ret
 exact ⟨er, by repeat (first | (with_reducible first | exact HI0.out | apply IsS38.alloc | apply IsS38.drewN | apply IsS38.drew | apply IsS38.set_0) | exact HI0.out), by repeat (first | (with_reducible first | exact HB.out | apply below_alloc | apply pw_below_drewN | apply below_drew1 | refine below_set ?_ (IsS38.ge HI0.out)) | exact HB.out), by repeat (first | (with_reducible first | exact HK.out | apply KeepBut.set_ | apply keep_drewN | apply keep_drew | apply keep_alloc) | exact HK.out)⟩

/-! ### soft_Calc_Mul_nil: function 27 -/
def soft_Calc_Mul_nil.f (k : Nat)  (a1 : Int) (a2 : Int) : Option (Int) := (soft_Mul.f k a1 a2).bind fun bt287 => ((soft_Calc_note_nil.f bt287.1 bt287.2).bind fun t289 => (some t289))
theorem soft_Calc_Mul_nil.mono : ∀ a0 a1 k, LeO (soft_Calc_Mul_nil.f k a0 a1) (soft_Calc_Mul_nil.f (k + 1) a0 a1) := by
 intro a0 a1 k
 unfold soft_Calc_Mul_nil.f
 repeat' with_reducible first | apply soft_Mul.mono | exact LeO.refl _ | exact LeO.none _ | refine LeO.ite ?_ ?_ | refine LeO.bind ?_ (fun _ => ?_)
set_option maxHeartbeats 8000000 in
set_option maxRecDepth 100000 in
theorem soft_Calc_Mul_nil.calls (k : Nat)  (a1 : Int) (a2 : Int) (r : Int) (w : World) (h : soft_Calc_Mul_nil.f k a1 a2 = some r) :
  Calls Try.prog 27 #[.pointer none, .int .u64 a1, .int .u64 a2] w fun e w' => e = .returned (.int .u64 r) ∧ Below w.heap.size w w' := by
 have HB := Aside0.mk (Below.refl w.heap.size w)
 have H : ((soft_Mul.f k a1 a2).bind fun bt287 => ((soft_Calc_note_nil.f bt287.1 bt287.2).bind fun t289 => (some t289))) = some r := h
 clear h
 obtain ⟨⟨t287, t288⟩, A40, H⟩ := Option.bind_eq_some_iff.mp H
 (try dsimp -simprocs only at H)
 have A4 := Aside0.mk A40
 clear A40
 obtain ⟨t289, A50, H⟩ := Option.bind_eq_some_iff.mp H
 (try dsimp -simprocs only at H)
 have A5 := Aside0.mk A50
 clear A50
 obtain rfl := Option.some.inj H
 go_enter Try.func27, Try.ntmps27
 go_wp2_with (first | ((with_reducible refine gate_callee (f := 21) rfl ?_); refine goesL_ (some 10) rfl rfl Try.func21 (by kernel_rfl) rfl #[.int .u64 a1, .int .u64 a2] rfl ga ?_; (with_reducible refine (soft_Mul.calls k a1 a2 t287 t288 _ A4.out).mono ?_); rintro e w6 ⟨rfl, hb⟩; refine ⟨_, rfl, ?_⟩; refine ax1 (below_step bel hb) ?_; clear HB; intro HB; (try clear hb)) | ((with_reducible refine gate_callee (f := 59) rfl ?_); refine goesL_ (some 13) rfl rfl Try.func59 (by kernel_rfl) rfl #[.pointer none, .int .u64 t287, .int .u8 t288] rfl ga ?_; (with_reducible refine (soft_Calc_note_nil.calls  t287 t288 t289 _ A5.out).mono ?_); rintro e w' ⟨rfl, ⟨nd, rfl⟩⟩; refine ⟨_, rfl, ?_⟩))
 go_ret
 exact ⟨er, bel⟩

/-! ### soft_Calc_Div: function 28 -/
def soft_Calc_Div.f (k : Nat) (s0_0 : Int) (a1 : Int) (a2 : Int) : Option (Int × Int) := (soft_Div.f k a1 a2).bind fun bt290 => ((soft_Calc_note.f s0_0 bt290.1 bt290.2).bind fun bt292 => (some (bt292.1, bt292.2)))
theorem soft_Calc_Div.mono : ∀ a0 a1 a2 k, LeO (soft_Calc_Div.f k a0 a1 a2) (soft_Calc_Div.f (k + 1) a0 a1 a2) := by
 intro a0 a1 a2 k
 unfold soft_Calc_Div.f
 repeat' with_reducible first | apply soft_Div.mono | exact LeO.refl _ | exact LeO.none _ | refine LeO.ite ?_ ?_ | refine LeO.bind ?_ (fun _ => ?_)
set_option maxHeartbeats 8000000 in
set_option maxRecDepth 100000 in
theorem soft_Calc_Div.calls (k : Nat) (g : Nat) (s0_0 : Int) (a1 : Int) (a2 : Int) (r1 : Int) (r2 : Int) (w0 w : World) (hI : IsS38 w0 w g s0_0) (hB : Below w0.heap.size w0 w) (h : soft_Calc_Div.f k s0_0 a1 a2 = some (r1, r2)) :
  Calls Try.prog 28 #[.pointer (some ⟨g, 0, none⟩), .int .u64 a1, .int .u64 a2] w fun e w' => e = .returned (.int .u64 r1) ∧ IsS38 w0 w' g r2 ∧ Below w0.heap.size w0 w' ∧ KeepBut w w' g none := by
 have HI0 := Aside0.mk hI
 have HK := Aside0.mk (KeepBut.refl w g none)
 have HL := Aside0.mk hB.size
 clear hI
 have HW0 := Aside0.mk hB.size
 have HB := Aside0.mk hB
 clear hB
 have H : ((soft_Div.f k a1 a2).bind fun bt290 => ((soft_Calc_note.f s0_0 bt290.1 bt290.2).bind fun bt292 => (some (bt292.1, bt292.2)))) = some (r1, r2) := h
 clear h
 obtain ⟨⟨t290, t291⟩, A40, H⟩ := Option.bind_eq_some_iff.mp H
 (try dsimp -simprocs only at H)
 have A4 := Aside0.mk A40
 clear A40
 obtain ⟨⟨t292, t293⟩, A50, H⟩ := Option.bind_eq_some_iff.mp H
 (try dsimp -simprocs only at H)
 have A5 := Aside0.mk A50
 clear A50
 simp only [Option.some.injEq, Prod.mk.injEq] at H
 obtain ⟨rfl, rfl⟩ := H
 go_enter Try.func28, Try.ntmps28
 go_wp2_with (first | ((with_reducible refine gate_callee (f := 16) rfl ?_); refine goesL_ (some 10) rfl rfl Try.func16 (by kernel_rfl) rfl #[.int .u64 a1, .int .u64 a2] rfl ga ?_; (with_reducible refine (soft_Div.calls k a1 a2 t290 t291 _ A4.out).mono ?_); rintro e w6 ⟨rfl, hb⟩; refine ⟨_, rfl, ?_⟩; refine ax3 (IsS38.below (by repeat (first | (with_reducible first | exact HI0.out | apply IsS38.alloc | apply IsS38.drewN | apply IsS38.drew | apply IsS38.set_0) | exact HI0.out)) hb) (KeepBut.trans (by repeat (first | (with_reducible first | exact HK.out | apply KeepBut.set_ | apply keep_drewN | apply keep_drew | apply keep_alloc) | exact HK.out)) (KeepBut.of_below hb g none) (.inl rfl)) (below_step (by repeat (first | (with_reducible first | exact HB.out | apply below_alloc | apply pw_below_drewN | apply below_drew1 | refine below_set ?_ (IsS38.ge HI0.out)) | exact HB.out)) hb) ?_; clear HI0; clear HK; clear HB; intro HI0 HK HB; (try clear hb)) | ((with_reducible refine gate_callee (f := 59) rfl ?_); refine goesL_ (some 13) rfl rfl Try.func59 (by kernel_rfl) rfl #[.pointer (some ⟨g, 0, none⟩), .int .u64 t290, .int .u8 t291] rfl ga ?_; (with_reducible refine (soft_Calc_note.calls g s0_0 t290 t291 t292 t293 w0 _ ?side1 ?side2 A5.out).mono ?_); (case side1 => repeat (first | (with_reducible first | exact HI0.out | apply IsS38.alloc | apply IsS38.drewN | apply IsS38.drew | apply IsS38.set_0) | exact HI0.out)); (case side2 => repeat (first | (with_reducible first | exact HB.out | apply below_alloc | apply pw_below_drewN | apply below_drew1 | refine below_set ?_ (IsS38.ge HI0.out)) | exact HB.out)); rintro e w7 ⟨rfl, hi, hb, hk⟩; refine ⟨_, rfl, ?_⟩; refine ax3 (KeepBut.trans (by repeat (first | (with_reducible first | exact HK.out | apply KeepBut.set_ | apply keep_drewN | apply keep_drew | apply keep_alloc) | exact HK.out)) hk (.inl rfl)) hb hi ?_; clear HK; clear HB; clear HI0; intro HK HB HI0; (try clear hb)))
 go_ret
 exact ⟨er, by repeat (first | (with_reducible first | exact HI0.out | apply IsS38.alloc | apply IsS38.drewN | apply IsS38.drew | apply IsS38.set_0) | exact HI0.out), by repeat (first | (with_reducible first | exact HB.out | apply below_alloc | apply pw_below_drewN | apply below_drew1 | refine below_set ?_ (IsS38.ge HI0.out)) | exact HB.out), by repeat (first | (with_reducible first | exact HK.out | apply KeepBut.set_ | apply keep_drewN | apply keep_drew | apply keep_alloc) | exact HK.out)⟩

/-! ### soft_Calc_Div_nil: function 28 -/
def soft_Calc_Div_nil.f (k : Nat)  (a1 : Int) (a2 : Int) : Option (Int) := (soft_Div.f k a1 a2).bind fun bt294 => ((soft_Calc_note_nil.f bt294.1 bt294.2).bind fun t296 => (some t296))
theorem soft_Calc_Div_nil.mono : ∀ a0 a1 k, LeO (soft_Calc_Div_nil.f k a0 a1) (soft_Calc_Div_nil.f (k + 1) a0 a1) := by
 intro a0 a1 k
 unfold soft_Calc_Div_nil.f
 repeat' with_reducible first | apply soft_Div.mono | exact LeO.refl _ | exact LeO.none _ | refine LeO.ite ?_ ?_ | refine LeO.bind ?_ (fun _ => ?_)
set_option maxHeartbeats 8000000 in
set_option maxRecDepth 100000 in
theorem soft_Calc_Div_nil.calls (k : Nat)  (a1 : Int) (a2 : Int) (r : Int) (w : World) (h : soft_Calc_Div_nil.f k a1 a2 = some r) :
  Calls Try.prog 28 #[.pointer none, .int .u64 a1, .int .u64 a2] w fun e w' => e = .returned (.int .u64 r) ∧ Below w.heap.size w w' := by
 have HB := Aside0.mk (Below.refl w.heap.size w)
 have H : ((soft_Div.f k a1 a2).bind fun bt294 => ((soft_Calc_note_nil.f bt294.1 bt294.2).bind fun t296 => (some t296))) = some r := h
 clear h
 obtain ⟨⟨t294, t295⟩, A40, H⟩ := Option.bind_eq_some_iff.mp H
 (try dsimp -simprocs only at H)
 have A4 := Aside0.mk A40
 clear A40
 obtain ⟨t296, A50, H⟩ := Option.bind_eq_some_iff.mp H
 (try dsimp -simprocs only at H)
 have A5 := Aside0.mk A50
 clear A50
 obtain rfl := Option.some.inj H
 go_enter Try.func28, Try.ntmps28
 go_wp2_with (first | ((with_reducible refine gate_callee (f := 16) rfl ?_); refine goesL_ (some 10) rfl rfl Try.func16 (by kernel_rfl) rfl #[.int .u64 a1, .int .u64 a2] rfl ga ?_; (with_reducible refine (soft_Div.calls k a1 a2 t294 t295 _ A4.out).mono ?_); rintro e w6 ⟨rfl, hb⟩; refine ⟨_, rfl, ?_⟩; refine ax1 (below_step bel hb) ?_; clear HB; intro HB; (try clear hb)) | ((with_reducible refine gate_callee (f := 59) rfl ?_); refine goesL_ (some 13) rfl rfl Try.func59 (by kernel_rfl) rfl #[.pointer none, .int .u64 t294, .int .u8 t295] rfl ga ?_; (with_reducible refine (soft_Calc_note_nil.calls  t294 t295 t296 _ A5.out).mono ?_); rintro e w' ⟨rfl, ⟨nd, rfl⟩⟩; refine ⟨_, rfl, ?_⟩))
 go_ret
 exact ⟨er, bel⟩

/-! ### soft_Calc_Note: function 29 -/
def soft_Calc_Note.f (s0_0 : Int) (a1 : Int) (a2 : Int) : Option (Int × Int) := (soft_Calc_note.f s0_0 a1 a2).bind fun bt297 => (some (bt297.1, bt297.2))
set_option maxHeartbeats 8000000 in
set_option maxRecDepth 100000 in
theorem soft_Calc_Note.calls (g : Nat) (s0_0 : Int) (a1 : Int) (a2 : Int) (r1 : Int) (r2 : Int) (w0 w : World) (hI : IsS38 w0 w g s0_0) (hB : Below w0.heap.size w0 w) (h : soft_Calc_Note.f s0_0 a1 a2 = some (r1, r2)) :
  Calls Try.prog 29 #[.pointer (some ⟨g, 0, none⟩), .int .u64 a1, .int .u8 a2] w fun e w' => e = .returned (.int .u64 r1) ∧ IsS38 w0 w' g r2 ∧ Below w0.heap.size w0 w' ∧ KeepBut w w' g none := by
 have HI0 := Aside0.mk hI
 have HK := Aside0.mk (KeepBut.refl w g none)
 have HL := Aside0.mk hB.size
 clear hI
 have HW0 := Aside0.mk hB.size
 have HB := Aside0.mk hB
 clear hB
 have H : ((soft_Calc_note.f s0_0 a1 a2).bind fun bt297 => (some (bt297.1, bt297.2))) = some (r1, r2) := h
 clear h
 obtain ⟨⟨t297, t298⟩, A40, H⟩ := Option.bind_eq_some_iff.mp H
 (try dsimp -simprocs only at H)
 have A4 := Aside0.mk A40
 clear A40
 simp only [Option.some.injEq, Prod.mk.injEq] at H
 obtain ⟨rfl, rfl⟩ := H
 go_enter Try.func29, Try.ntmps29
 go_wp2_with (first | ((with_reducible refine gate_callee (f := 59) rfl ?_); refine goesL_ (some 10) rfl rfl Try.func59 (by kernel_rfl) rfl #[.pointer (some ⟨g, 0, none⟩), .int .u64 a1, .int .u8 a2] rfl ga ?_; (with_reducible refine (soft_Calc_note.calls g s0_0 a1 a2 t297 t298 w0 _ ?side1 ?side2 A4.out).mono ?_); (case side1 => repeat (first | (with_reducible first | exact HI0.out | apply IsS38.alloc | apply IsS38.drewN | apply IsS38.drew | apply IsS38.set_0) | exact HI0.out)); (case side2 => repeat (first | (with_reducible first | exact HB.out | apply below_alloc | apply pw_below_drewN | apply below_drew1 | refine below_set ?_ (IsS38.ge HI0.out)) | exact HB.out)); rintro e w5 ⟨rfl, hi, hb, hk⟩; refine ⟨_, rfl, ?_⟩; refine ax3 (KeepBut.trans (by repeat (first | (with_reducible first | exact HK.out | apply KeepBut.set_ | apply keep_drewN | apply keep_drew | apply keep_alloc) | exact HK.out)) hk (.inl rfl)) hb hi ?_; clear HK; clear HB; clear HI0; intro HK HB HI0; (try clear hb)))
 go_ret
 exact ⟨er, by repeat (first | (with_reducible first | exact HI0.out | apply IsS38.alloc | apply IsS38.drewN | apply IsS38.drew | apply IsS38.set_0) | exact HI0.out), by repeat (first | (with_reducible first | exact HB.out | apply below_alloc | apply pw_below_drewN | apply below_drew1 | refine below_set ?_ (IsS38.ge HI0.out)) | exact HB.out), by repeat (first | (with_reducible first | exact HK.out | apply KeepBut.set_ | apply keep_drewN | apply keep_drew | apply keep_alloc) | exact HK.out)⟩

/-! ### soft_Calc_Note_nil: function 29 -/
def soft_Calc_Note_nil.f  (a1 : Int) (a2 : Int) : Option (Int) := (soft_Calc_note_nil.f a1 a2).bind fun t299 => (some t299)
set_option maxHeartbeats 8000000 in
set_option maxRecDepth 100000 in
theorem soft_Calc_Note_nil.calls  (a1 : Int) (a2 : Int) (r : Int) (w : World) (h : soft_Calc_Note_nil.f a1 a2 = some r) :
  Calls Try.prog 29 #[.pointer none, .int .u64 a1, .int .u8 a2] w fun e w' => e = .returned (.int .u64 r) ∧ Drawn0 w w' := by
 have H : ((soft_Calc_note_nil.f a1 a2).bind fun t299 => (some t299)) = some r := h
 clear h
 obtain ⟨t299, A40, H⟩ := Option.bind_eq_some_iff.mp H
 (try dsimp -simprocs only at H)
 have A4 := Aside0.mk A40
 clear A40
 obtain rfl := Option.some.inj H
 go_enter Try.func29, Try.ntmps29
 go_wp2_with (first | ((with_reducible refine gate_callee (f := 59) rfl ?_); refine goesL_ (some 10) rfl rfl Try.func59 (by kernel_rfl) rfl #[.pointer none, .int .u64 a1, .int .u8 a2] rfl ga ?_; (with_reducible refine (soft_Calc_note_nil.calls  a1 a2 t299 _ A4.out).mono ?_); rintro e w' ⟨rfl, ⟨nd, rfl⟩⟩; refine ⟨_, rfl, ?_⟩))
 go_ret
 exact ⟨by first | rfl | (simp; done) | (simp [*]; done), by repeat (first | exact Drawn0.refl _ | apply Drawn0.step)⟩

/-! ### gimballaw04_SoftCalcs: function 10 -/
mutual
def gimballaw04_SoftCalcs.l0 : Nat → Int → List (S40) → Int → Int → Int → Option (Bool)
 | 0, _, _, _, _, _ => none
 | k + 1, x0, x1, x7, x8, x302000 => if x8 < (x1.length : Int) then (gimballaw04_SoftCalcs.j1 k x0 x1 x7 x8 (decide (x8 < 60)) x302000) else (gimballaw04_SoftCalcs.j1 k x0 x1 x7 x8 false x302000)
def gimballaw04_SoftCalcs.j1 : Nat → Int → List (S40) → Int → Int → Bool → Int → Option (Bool)
 | 0, _, _, _, _, _, _ => none
 | k + 1, x0, x1, x7, x8, x25, x302000 => if x25 = true then (if 0 ≤ x8 then (if x8 < (x1.length : Int) then (if ((rd_T40 x1 x8).f0) = 0 then ((soft_Add.f k x0 ((rd_T40 x1 x8).f1)).bind fun bt304 => ((soft_Calc_Add.f k x302000 x0 ((rd_T40 x1 x8).f1)).bind fun bt306 => ((soft_Calc_Add_nil.f k x0 ((rd_T40 x1 x8).f1)).bind fun t308 => (if bt306.1 = bt304.1 then (if t308 = bt304.1 then (if bt306.2 = (Go.bits .or .u8 x7 bt304.2) then (gimballaw04_SoftCalcs.l0 k bt306.1 x1 (Go.bits .or .u8 x7 bt304.2) (wrap64 (x8 + 1)) bt306.2) else (some false)) else (some false)) else (some false))))) else (if ((rd_T40 x1 x8).f0) = 1 then ((soft_Sub.f k x0 ((rd_T40 x1 x8).f1)).bind fun bt309 => ((soft_Calc_Sub.f k x302000 x0 ((rd_T40 x1 x8).f1)).bind fun bt311 => ((soft_Calc_Sub_nil.f k x0 ((rd_T40 x1 x8).f1)).bind fun t313 => (if bt311.1 = bt309.1 then (if t313 = bt309.1 then (if bt311.2 = (Go.bits .or .u8 x7 bt309.2) then (gimballaw04_SoftCalcs.l0 k bt311.1 x1 (Go.bits .or .u8 x7 bt309.2) (wrap64 (x8 + 1)) bt311.2) else (some false)) else (some false)) else (some false))))) else (if ((rd_T40 x1 x8).f0) = 2 then ((soft_Mul.f k x0 ((rd_T40 x1 x8).f1)).bind fun bt314 => ((soft_Calc_Mul.f k x302000 x0 ((rd_T40 x1 x8).f1)).bind fun bt316 => ((soft_Calc_Mul_nil.f k x0 ((rd_T40 x1 x8).f1)).bind fun t318 => (if bt316.1 = bt314.1 then (if t318 = bt314.1 then (if bt316.2 = (Go.bits .or .u8 x7 bt314.2) then (gimballaw04_SoftCalcs.l0 k bt316.1 x1 (Go.bits .or .u8 x7 bt314.2) (wrap64 (x8 + 1)) bt316.2) else (some false)) else (some false)) else (some false))))) else (if ((rd_T40 x1 x8).f0) = 3 then ((soft_Div.f k x0 ((rd_T40 x1 x8).f1)).bind fun bt319 => ((soft_Calc_Div.f k x302000 x0 ((rd_T40 x1 x8).f1)).bind fun bt321 => ((soft_Calc_Div_nil.f k x0 ((rd_T40 x1 x8).f1)).bind fun t323 => (if bt321.1 = bt319.1 then (if t323 = bt319.1 then (if bt321.2 = (Go.bits .or .u8 x7 bt319.2) then (gimballaw04_SoftCalcs.l0 k bt321.1 x1 (Go.bits .or .u8 x7 bt319.2) (wrap64 (x8 + 1)) bt321.2) else (some false)) else (some false)) else (some false))))) else (if ((rd_T40 x1 x8).f0) = 4 then ((soft_Calc_Note.f x302000 x0 ((Go.bits .and .u64 ((rd_T40 x1 x8).f1) 31) % 256)).bind fun bt324 => ((soft_Calc_Note_nil.f x0 ((Go.bits .and .u64 ((rd_T40 x1 x8).f1) 31) % 256)).bind fun t326 => (if bt324.1 = x0 then (if t326 = x0 then (if bt324.2 = (Go.bits .or .u8 x7 ((Go.bits .and .u64 ((rd_T40 x1 x8).f1) 31) % 256)) then (gimballaw04_SoftCalcs.l0 k bt324.1 x1 (Go.bits .or .u8 x7 ((Go.bits .and .u64 ((rd_T40 x1 x8).f1) 31) % 256)) (wrap64 (x8 + 1)) bt324.2) else (some false)) else (some false)) else (some false)))) else (if x0 = x0 then (if x302000 = (Go.bits .or .u8 x7 0) then (gimballaw04_SoftCalcs.l0 k x0 x1 (Go.bits .or .u8 x7 0) (wrap64 (x8 + 1)) x302000) else (some false)) else (some false))))))) else (none)) else (none)) else (some true)
end
def gimballaw04_SoftCalcs.f (k : Nat) (a0 : Int) (l1 : List (S40)) : Option (Bool) := (gimballaw04_head.f k).bind fun t300 => (if t300 = true then (gimballaw04_SoftCalcs.l0 k a0 l1 0 0 0) else (some false))
theorem gimballaw04_SoftCalcs.mono_l : ∀ k, (∀ y0 y1 y2 y3 y4, LeO (gimballaw04_SoftCalcs.l0 k y0 y1 y2 y3 y4) (gimballaw04_SoftCalcs.l0 (k + 1) y0 y1 y2 y3 y4)) ∧ (∀ y0 y1 y2 y3 y4 y5, LeO (gimballaw04_SoftCalcs.j1 k y0 y1 y2 y3 y4 y5) (gimballaw04_SoftCalcs.j1 (k + 1) y0 y1 y2 y3 y4 y5))
 | 0 => ⟨fun _ _ _ _ _ r h => by simp [gimballaw04_SoftCalcs.l0] at h, fun _ _ _ _ _ _ r h => by simp [gimballaw04_SoftCalcs.j1] at h⟩
 | k + 1 => by
  obtain ⟨ih0, ih1⟩ := gimballaw04_SoftCalcs.mono_l k
  refine ⟨?_, ?_⟩ <;> intros <;> (first | unfold gimballaw04_SoftCalcs.l0 | unfold gimballaw04_SoftCalcs.j1) <;>
   repeat' with_reducible first | apply ih0 | apply ih1 | apply gimballaw04_head.mono | apply soft_Add.mono | apply soft_Calc_Add.mono | apply soft_Calc_Add_nil.mono | apply soft_Calc_Div.mono | apply soft_Calc_Div_nil.mono | apply soft_Calc_Mul.mono | apply soft_Calc_Mul_nil.mono | apply soft_Calc_Sub.mono | apply soft_Calc_Sub_nil.mono | apply soft_Div.mono | apply soft_Mul.mono | apply soft_Sub.mono | exact LeO.refl _ | exact LeO.none _ | refine LeO.ite ?_ ?_ | refine LeO.bind ?_ (fun _ => ?_)
theorem gimballaw04_SoftCalcs.mono : ∀ a0 a1 k, LeO (gimballaw04_SoftCalcs.f k a0 a1) (gimballaw04_SoftCalcs.f (k + 1) a0 a1) := by
 intro a0 a1 k
 obtain ⟨ih0, ih1⟩ := gimballaw04_SoftCalcs.mono_l k
 unfold gimballaw04_SoftCalcs.f
 repeat' with_reducible first | apply ih0 | apply ih1 | apply gimballaw04_head.mono | apply soft_Add.mono | apply soft_Calc_Add.mono | apply soft_Calc_Add_nil.mono | apply soft_Calc_Div.mono | apply soft_Calc_Div_nil.mono | apply soft_Calc_Mul.mono | apply soft_Calc_Mul_nil.mono | apply soft_Calc_Sub.mono | apply soft_Calc_Sub_nil.mono | apply soft_Div.mono | apply soft_Mul.mono | apply soft_Sub.mono | exact LeO.refl _ | exact LeO.none _ | refine LeO.ite ?_ ?_ | refine LeO.bind ?_ (fun _ => ?_)
set_option maxHeartbeats 8000000 in
set_option maxRecDepth 100000 in
theorem gimballaw04_SoftCalcs.calls (k : Nat) (a0 : Int) (A1 : Option Addr) (c1 : Nat) (l1 : List (S40)) (r : Bool) (w : World) (hr1 : Kd.C k40 w A1 l1.length l1) (hc1 : l1.length ≤ c1) (hLW : r = true) (h : gimballaw04_SoftCalcs.f k a0 l1 = some r) :
  Calls Try.prog 10 #[.int .u64 a0, .slice A1 l1.length c1] w fun e w' => e = .returned (.bool r) ∧ Below w.heap.size w w' := by
 have hu38 := Try.underlying38
 have hu40 := Try.underlying40
 have HR1 := Aside0.mk hr1
 have HC1 := Aside0.mk hc1
 clear hr1 hc1
 have HB := Aside0.mk (Below.refl w.heap.size w)
 have H : ((gimballaw04_head.f k).bind fun t300 => (if t300 = true then (gimballaw04_SoftCalcs.l0 k a0 l1 0 0 0) else (some false))) = some r := h
 clear h
 obtain ⟨t300, A30, H⟩ := Option.bind_eq_some_iff.mp H
 (try dsimp -simprocs only at H)
 have A3 := Aside0.mk A30
 clear A30
 by_cases c4 : t300 = true
 rotate_left
 ·
  replace c4 := Bool.eq_false_iff.mpr c4
  subst c4
  rw [if_neg (show ¬ (false = true) by decide)] at H
  rw [hLW] at H
  exact absurd H (by simp)

 subst c4
 rw [if_pos rfl] at H
 have H' := Aside0.mk H
 clear H
 go_enter Try.func10, Try.ntmps10
 go_wp2_with (first | ((with_reducible refine gate_callee (f := 11) rfl ?_); refine goesL_ (some 14) rfl rfl Try.func11 (by kernel_rfl) rfl #[] rfl ga ?_; (with_reducible refine (gimballaw04_head.calls k  true _ A3.out).mono ?_); rintro e w5 ⟨rfl, hb⟩; refine ⟨_, rfl, ?_⟩; refine ax1 (below_step bel hb) ?_; clear HB; intro HB; (try clear hb)) | ((with_reducible refine gate_dst (N := 17) rfl ?_); refine gbox (N := 17) (cs := #[.int .u8 0]) (t := 38) ?_; intro gb301 hg w6 hbox hb; refine ax4 (below_step bel hb) ((ge hg : w.heap.size ≤ gb301)) ((ge hg : w.heap.size ≤ gb301)) ((show IsS38 w _ gb301 0 from ⟨hbox, by rw [hg]; exact (below_size bel)⟩)) ?_; clear HB; intro HB GW301 GE301 HI301; clear hb hbox hg))
 go_loopg [0, 7, 8] k (fun kq v0 v7 v8 w' => ∃ (x0_1 : Int) (x7_1 : Int) (x8_1 : Int) (x302000_1 : Int), v0 = .int .u64 x0_1 ∧ v7 = .int .u8 x7_1 ∧ v8 = .int .i64 x8_1 ∧ Aside0 (gimballaw04_SoftCalcs.l0 kq x0_1 l1 x7_1 x8_1 x302000_1 = some r) ∧ Aside0 (kq ≤ k) ∧ Aside0 (IsS38 w w' gb301 x302000_1) ∧ Aside0 (Below w.heap.size w w'))
 case atStart => exact ⟨(a0), (0), (0), (0), (by first | rfl | (simp; done) | (simp [*]; done)), (by first | rfl | (simp; done) | (simp [*]; done)), (by first | rfl | (simp; done) | (simp [*]; done)), H', ⟨Nat.le_refl _⟩, ⟨by repeat (first | (with_reducible first | exact HI301.out | apply IsS38.alloc | apply IsS38.drewN | apply IsS38.drew | apply IsS38.set_0) | exact HI301.out)⟩, ⟨by repeat (first | (with_reducible first | exact HB.out | apply below_alloc | apply pw_below_drewN | apply below_drew1 | refine below_set ?_ (IsS38.ge HI301.out)) | exact HB.out)⟩⟩
 case round =>
  clear H'
  try clear c1
  try clear p2
  try clear c4
  obtain ⟨x0_1, x7_1, x8_1, x302000_1, rfl, rfl, rfl, HA, HK1, HI301, HB⟩ := hrel
  cases gk with
  | zero => exact absurd HA.out (by simp [gimballaw04_SoftCalcs.l0])
  | succ k1 =>
   have H := HA.out
   clear HA
   simp only [gimballaw04_SoftCalcs.l0] at H
   have HC7 := Aside0.mk H
   clear H
   go_upto_region 7 with (fail)
   go_cut [25] (fun v25 wc => ∃ (kq : Nat) (x25_6 : Bool), v25 = .bool x25_6 ∧ Aside0 (gimballaw04_SoftCalcs.j1 kq x0_1 l1 x7_1 x8_1 x25_6 x302000_1 = some r) ∧ Aside0 (kq ≤ k1) ∧ Aside0 (IsS38 w wc gb301 x302000_1) ∧ Aside0 (Below w.heap.size w wc))
   case first =>
    have H := HC7.out
    clear HC7
    by_cases c8 : x8_1 < (l1.length : Int)
    rotate_left
    ·
     rw [if_neg c8] at H
     have c8b0 : decide (x8_1 < (l1.length : Int)) = false := decide_eq_false c8
     clear c8
     (first | rw [c8b0] | (simp only [i64_w, i32_w]; rw [c8b0]) | skip)
     have H' := Aside0.mk H
     clear H
     go_wp2
     go_meet
     case rel => exact ⟨_, (false), (by first | rfl | (simp; done) | (simp [*]; done)), H', ⟨by have := HK1.out; first | omega | exact Nat.le_refl _⟩, ⟨by repeat (first | (with_reducible first | exact HI301.out | apply IsS38.alloc | apply IsS38.drewN | apply IsS38.drew | apply IsS38.set_0) | exact HI301.out)⟩, ⟨by repeat (first | (with_reducible first | exact HB.out | apply below_alloc | apply pw_below_drewN | apply below_drew1 | refine below_set ?_ (IsS38.ge HI301.out)) | exact HB.out)⟩⟩
    rw [if_pos c8] at H
    have c8b0 : decide (x8_1 < (l1.length : Int)) = true := decide_eq_true c8
    clear c8
    (first | rw [c8b0] | (simp only [i64_w, i32_w]; rw [c8b0]) | skip)
    have H' := Aside0.mk H
    clear H
    go_wp2
    go_meet
    case rel => exact ⟨_, (decide (x8_1 < 60)), (by first | rfl | (simp; done) | (simp [*]; done)), H', ⟨by have := HK1.out; first | omega | exact Nat.le_refl _⟩, ⟨by repeat (first | (with_reducible first | exact HI301.out | apply IsS38.alloc | apply IsS38.drewN | apply IsS38.drew | apply IsS38.set_0) | exact HI301.out)⟩, ⟨by repeat (first | (with_reducible first | exact HB.out | apply below_alloc | apply pw_below_drewN | apply below_drew1 | refine below_set ?_ (IsS38.ge HI301.out)) | exact HB.out)⟩⟩
   case rest =>
    clear HC7
    try clear c1
    try clear p2
    try clear c4
    try clear c8
    try clear c8b0
    try clear p2
    obtain ⟨kq, x25_6, rfl, HA, HJ6, HI301, HB⟩ := hcut
    cases kq with
    | zero => exact absurd HA.out (by simp [gimballaw04_SoftCalcs.j1])
    | succ kj6 =>
     have H := HA.out
     clear HA
     simp only [gimballaw04_SoftCalcs.j1] at H
     by_cases c9 : x25_6 = true
     rotate_left
     ·
      replace c9 := Bool.eq_false_iff.mpr c9
      subst c9
      rw [if_neg (show ¬ (false = true) by decide)] at H
      obtain rfl := Option.some.inj H
      go_wp2
      go_ret
      exact ⟨er, by repeat (first | (with_reducible first | exact HB.out | apply below_alloc | apply pw_below_drewN | apply below_drew1 | refine below_set ?_ (IsS38.ge HI301.out)) | exact HB.out)⟩
     subst c9
     rw [if_pos rfl] at H
     by_cases c10 : 0 ≤ x8_1
     rotate_left
     ·
      rw [if_neg c10] at H
      exact absurd H (by simp)
     rw [if_pos c10] at H
     have c10b0 : decide (0 ≤ x8_1) = true := decide_eq_true c10
     clear c10
     by_cases c11 : x8_1 < (l1.length : Int)
     rotate_left
     ·
      rw [if_neg c11] at H
      exact absurd H (by simp)
     rw [if_pos c11] at H
     have c11b0 : decide (x8_1 < (l1.length : Int)) = true := decide_eq_true c11
     clear c11
     by_cases c12 : ((rd_T40 l1 x8_1).f0) = 0
     ·
      rw [if_pos c12] at H
      have c12b0 : (((rd_T40 l1 x8_1).f0) == 0) = true := beq_iff_eq.mpr c12
      have c12b1 : (((rd_T40 l1 x8_1).f0) != 0) = false := bne_eq_false_iff_eq.mpr c12
      clear c12
      obtain ⟨⟨t304, t305⟩, A130, H⟩ := Option.bind_eq_some_iff.mp H
      (try dsimp -simprocs only at H)
      have A13 := Aside0.mk A130
      clear A130
      obtain ⟨⟨t306, t307⟩, A140, H⟩ := Option.bind_eq_some_iff.mp H
      (try dsimp -simprocs only at H)
      have A14 := Aside0.mk A140
      clear A140
      obtain ⟨t308, A150, H⟩ := Option.bind_eq_some_iff.mp H
      (try dsimp -simprocs only at H)
      have A15 := Aside0.mk A150
      clear A150
      by_cases c16 : t306 = t304
      rotate_left
      ·
       rw [if_neg c16] at H
       have c16b0 : (t306 == t304) = false := beq_eq_false_iff_ne.mpr c16
       have c16b1 : (t306 != t304) = true := bne_iff_ne.mpr c16
       rw [hLW] at H
       exact absurd H (by simp)
      rw [if_pos c16] at H
      have c16b0 : (t306 == t304) = true := beq_iff_eq.mpr c16
      have c16b1 : (t306 != t304) = false := bne_eq_false_iff_eq.mpr c16
      clear c16
      by_cases c17 : t308 = t304
      rotate_left
      ·
       rw [if_neg c17] at H
       have c17b0 : (t308 == t304) = false := beq_eq_false_iff_ne.mpr c17
       have c17b1 : (t308 != t304) = true := bne_iff_ne.mpr c17
       rw [hLW] at H
       exact absurd H (by simp)
      rw [if_pos c17] at H
      have c17b0 : (t308 == t304) = true := beq_iff_eq.mpr c17
      have c17b1 : (t308 != t304) = false := bne_eq_false_iff_eq.mpr c17
      clear c17
      by_cases c18 : t307 = (Go.bits .or .u8 x7_1 t305)
      rotate_left
      ·
       rw [if_neg c18] at H
       have c18b0 : (t307 == (Go.bits .or .u8 x7_1 t305)) = false := beq_eq_false_iff_ne.mpr c18
       have c18b1 : (t307 != (Go.bits .or .u8 x7_1 t305)) = true := bne_iff_ne.mpr c18
       rw [hLW] at H
       exact absurd H (by simp)
      rw [if_pos c18] at H
      have c18b0 : (t307 == (Go.bits .or .u8 x7_1 t305)) = true := beq_iff_eq.mpr c18
      have c18b1 : (t307 != (Go.bits .or .u8 x7_1 t305)) = false := bne_eq_false_iff_eq.mpr c18
      clear c18
      have H' := Aside0.mk H
      clear H
      have p302 : 0 ≤ (x8_1 : Int) := of_decide_eq_true (by first | (with_reducible assumption) | assumption)
      have q302 : x8_1 < (l1.length : Int) := of_decide_eq_true (by first | (with_reducible assumption) | assumption)
      obtain ⟨ad302, e302, hx302_0, hx302_1⟩ := at_T40 HR1.out x8_1 p302 q302
      cases e302
      replace hx302_0 := (HB.out.cell (World.block_lt_of_cell? w _ hx302_0)).trans hx302_0
      replace hx302_1 := (HB.out.cell (World.block_lt_of_cell? w _ hx302_1)).trans hx302_1
      replace p302 := eq_true p302
      replace q302 := eq_true q302
      go_wp2_with (first | ((with_reducible refine gate_dst (N := 9) rfl ?_); refine gbox (N := 9) (cs := #[.int .i64 0, .int .u64 0]) (t := 40) ?_; intro gb303 hg w19 hbox hb; refine ax7 (IsS38.below (by repeat (first | (with_reducible first | exact HI301.out | apply IsS38.alloc | apply IsS38.drewN | apply IsS38.drew | apply IsS38.set_0) | exact HI301.out)) hb) (below_step (by repeat (first | (with_reducible first | exact HB.out | apply below_alloc | apply pw_below_drewN | apply below_drew1 | refine below_set ?_ (IsS38.ge HI301.out)) | exact HB.out)) hb) hbox ((by rw [hg]; exact (below_size (by repeat (first | (with_reducible first | exact HB.out | apply below_alloc | apply pw_below_drewN | apply below_drew1 | refine below_set ?_ (IsS38.ge HI301.out)) | exact HB.out))) : w.heap.size ≤ gb303)) ((by rw [hg]; exact (below_size (by repeat (first | (with_reducible first | exact HB.out | apply below_alloc | apply pw_below_drewN | apply below_drew1 | refine below_set ?_ (IsS38.ge HI301.out)) | exact HB.out))) : w.heap.size ≤ gb303)) ((by rw [hg]; exact Nat.ne_of_lt (IsS38.lt (show IsS38 w _ gb301 x302000_1 from by repeat (first | (with_reducible first | exact HI301.out | apply IsS38.alloc | apply IsS38.drewN | apply IsS38.drew | apply IsS38.set_0) | exact HI301.out))) : gb301 ≠ gb303)) ((by rw [hg]; exact Nat.ne_of_gt (IsS38.lt (show IsS38 w _ gb301 x302000_1 from by repeat (first | (with_reducible first | exact HI301.out | apply IsS38.alloc | apply IsS38.drewN | apply IsS38.drew | apply IsS38.set_0) | exact HI301.out))) : gb303 ≠ gb301)) ?_; clear HI301; clear HB; intro HI301 HB BK303 GW303 GE303 NB301_303 NB303_301; clear hb hbox hg; have hnb20 := NB303_301.out; have hnc20 := NB301_303.out; have hcz21_0 := bc BK303 0 rfl; have hcz21_1 := bc BK303 1 rfl; have hfz21_0 := blk_frozen BK303.out 0; have hfz21_1 := blk_frozen BK303.out 1) | ((with_reducible refine gate_callee (f := 12) rfl ?_); refine goesL_ (some 43) rfl rfl Try.func12 (by kernel_rfl) rfl #[.int .u64 x0_1, .int .u64 ((rd_T40 l1 x8_1).f1)] rfl ga ?_; (with_reducible refine (soft_Add.calls kj6 x0_1 ((rd_T40 l1 x8_1).f1) t304 t305 _ A13.out).mono ?_); rintro e w22 ⟨rfl, hb⟩; refine ⟨_, rfl, ?_⟩; refine ax3 (IsS38.below (show IsS38 w ((w19.setCell ⟨gb303, 0, none⟩ (.int .i64 ((rd_T40 l1 x8_1).f0))).setCell ⟨gb303, 1, none⟩ (.int .u64 ((rd_T40 l1 x8_1).f1))) gb301 x302000_1 from by repeat (first | (with_reducible first | exact HI301.out | apply IsS38.alloc | apply IsS38.drewN | apply IsS38.drew | apply IsS38.set_0 | refine IsS38.far ?_ NB301_303.out _) | exact HI301.out)) hb) (blk_below (g := gb303) (o := .cells #[.int .i64 ((rd_T40 l1 x8_1).f0), .int .u64 ((rd_T40 l1 x8_1).f1)] 40 (0, 0)) (by (with_reducible repeat (first | refine blk_drewN ?_ _ | refine blk_drew ?_ | refine blk_alloc ?_ _)); refine blk_put (cs := #[.int .i64 ((rd_T40 l1 x8_1).f0), .int .u64 0]) ?_ 1 _ rfl; (with_reducible repeat (first | refine blk_drewN ?_ _ | refine blk_drew ?_ | refine blk_alloc ?_ _)); refine blk_put (cs := #[.int .i64 0, .int .u64 0]) ?_ 0 _ rfl; (with_reducible repeat (first | refine blk_drewN ?_ _ | refine blk_drew ?_ | refine blk_alloc ?_ _)); exact BK303.out) hb) (below_step (by repeat (first | (with_reducible first | exact HB.out | apply below_alloc | apply pw_below_drewN | apply below_drew1 | refine below_set ?_ (IsS38.ge HI301.out) | refine below_set ?_ GE303.out) | exact HB.out)) hb) ?_; clear HI301; clear BK303; clear HB; intro HI301 BK303 HB; (try clear hb); have hcz23_0 := bc BK303 0 rfl; have hcz23_1 := bc BK303 1 rfl; have hfz23_0 := blk_frozen BK303.out 0; have hfz23_1 := blk_frozen BK303.out 1) | ((with_reducible refine gate_callee (f := 25) rfl ?_); refine goesL_ (some 50) rfl rfl Try.func25 (by kernel_rfl) rfl #[.pointer (some ⟨gb301, 0, none⟩), .int .u64 x0_1, .int .u64 ((rd_T40 l1 x8_1).f1)] rfl ga ?_; (with_reducible refine (soft_Calc_Add.calls kj6 gb301 x302000_1 x0_1 ((rd_T40 l1 x8_1).f1) t306 t307 w _ ?side1 ?side2 A14.out).mono ?_); (case side1 => repeat (first | (with_reducible first | exact HI301.out | apply IsS38.alloc | apply IsS38.drewN | apply IsS38.drew | apply IsS38.set_0 | refine IsS38.far ?_ NB301_303.out _) | exact HI301.out)); (case side2 => repeat (first | (with_reducible first | exact HB.out | apply below_alloc | apply pw_below_drewN | apply below_drew1 | refine below_set ?_ (IsS38.ge HI301.out) | refine below_set ?_ GE303.out) | exact HB.out)); rintro e w24 ⟨rfl, hi, hb, hk⟩; refine ⟨_, rfl, ?_⟩; refine ax3 (KeepBut.blk hk (g' := gb303) (o := .cells #[.int .i64 ((rd_T40 l1 x8_1).f0), .int .u64 ((rd_T40 l1 x8_1).f1)] 40 (0, 0)) (kb BK303) NB303_301.out (by simp)) hb hi ?_; clear BK303; clear HB; clear HI301; intro BK303 HB HI301; (try clear hb); have hcz25_0 := bc BK303 0 rfl; have hcz25_1 := bc BK303 1 rfl; have hfz25_0 := blk_frozen BK303.out 0; have hfz25_1 := blk_frozen BK303.out 1) | ((with_reducible refine gate_callee (f := 25) rfl ?_); refine goesL_ (some 55) rfl rfl Try.func25 (by kernel_rfl) rfl #[.pointer none, .int .u64 x0_1, .int .u64 ((rd_T40 l1 x8_1).f1)] rfl ga ?_; (with_reducible refine (soft_Calc_Add_nil.calls kj6  x0_1 ((rd_T40 l1 x8_1).f1) t308 _ A15.out).mono ?_); rintro e w26 ⟨rfl, hb⟩; refine ⟨_, rfl, ?_⟩; refine ax3 (IsS38.below (by repeat (first | (with_reducible first | exact HI301.out | apply IsS38.alloc | apply IsS38.drewN | apply IsS38.drew | apply IsS38.set_0 | refine IsS38.far ?_ NB301_303.out _) | exact HI301.out)) hb) (bb BK303 hb) (below_step (by repeat (first | (with_reducible first | exact HB.out | apply below_alloc | apply pw_below_drewN | apply below_drew1 | refine below_set ?_ (IsS38.ge HI301.out) | refine below_set ?_ GE303.out) | exact HB.out)) hb) ?_; clear HI301; clear BK303; clear HB; intro HI301 BK303 HB; (try clear hb); obtain ⟨HGz27, hgz27⟩ := HI301.out; have hcz27_0 := cellS38_0 HGz27; have hfz27_0 := blk_frozen HGz27 0; clear HGz27 hgz27))
      go_roundg kj6
      case measure => have := HK1.out; have := HJ6.out; omega
      case rel => exact ⟨(t306), (Go.bits .or .u8 x7_1 t305), (wrap64 (x8_1 + 1)), (t307), (by first | rfl | (simp; done) | (simp [*]; done)), (by first | rfl | (simp; done) | (simp [*]; done)), (by first | rfl | (simp; done) | (simp [*]; done)), H', ⟨by have := HK1.out; have := HJ6.out; omega⟩, ⟨by repeat (first | (with_reducible first | exact HI301.out | apply IsS38.alloc | apply IsS38.drewN | apply IsS38.drew | apply IsS38.set_0 | refine IsS38.far ?_ NB301_303.out _) | exact HI301.out)⟩, ⟨by repeat (first | (with_reducible first | exact HB.out | apply below_alloc | apply pw_below_drewN | apply below_drew1 | refine below_set ?_ (IsS38.ge HI301.out) | refine below_set ?_ GE303.out) | exact HB.out)⟩⟩
     ·
      rw [if_neg c12] at H
      have c12b0 : (((rd_T40 l1 x8_1).f0) == 0) = false := beq_eq_false_iff_ne.mpr c12
      have c12b1 : (((rd_T40 l1 x8_1).f0) != 0) = true := bne_iff_ne.mpr c12
      by_cases c28 : ((rd_T40 l1 x8_1).f0) = 1
      ·
       rw [if_pos c28] at H
       have c28b0 : (((rd_T40 l1 x8_1).f0) == 1) = true := beq_iff_eq.mpr c28
       have c28b1 : (((rd_T40 l1 x8_1).f0) != 1) = false := bne_eq_false_iff_eq.mpr c28
       clear c28
       obtain ⟨⟨t309, t310⟩, A290, H⟩ := Option.bind_eq_some_iff.mp H
       (try dsimp -simprocs only at H)
       have A29 := Aside0.mk A290
       clear A290
       obtain ⟨⟨t311, t312⟩, A300, H⟩ := Option.bind_eq_some_iff.mp H
       (try dsimp -simprocs only at H)
       have A30 := Aside0.mk A300
       clear A300
       obtain ⟨t313, A310, H⟩ := Option.bind_eq_some_iff.mp H
       (try dsimp -simprocs only at H)
       have A31 := Aside0.mk A310
       clear A310
       by_cases c32 : t311 = t309
       rotate_left
       ·
        rw [if_neg c32] at H
        have c32b0 : (t311 == t309) = false := beq_eq_false_iff_ne.mpr c32
        have c32b1 : (t311 != t309) = true := bne_iff_ne.mpr c32
        rw [hLW] at H
        exact absurd H (by simp)
       rw [if_pos c32] at H
       have c32b0 : (t311 == t309) = true := beq_iff_eq.mpr c32
       have c32b1 : (t311 != t309) = false := bne_eq_false_iff_eq.mpr c32
       clear c32
       by_cases c33 : t313 = t309
       rotate_left
       ·
        rw [if_neg c33] at H
        have c33b0 : (t313 == t309) = false := beq_eq_false_iff_ne.mpr c33
        have c33b1 : (t313 != t309) = true := bne_iff_ne.mpr c33
        rw [hLW] at H
        exact absurd H (by simp)
       rw [if_pos c33] at H
       have c33b0 : (t313 == t309) = true := beq_iff_eq.mpr c33
       have c33b1 : (t313 != t309) = false := bne_eq_false_iff_eq.mpr c33
       clear c33
       by_cases c34 : t312 = (Go.bits .or .u8 x7_1 t310)
       rotate_left
       ·
        rw [if_neg c34] at H
        have c34b0 : (t312 == (Go.bits .or .u8 x7_1 t310)) = false := beq_eq_false_iff_ne.mpr c34
        have c34b1 : (t312 != (Go.bits .or .u8 x7_1 t310)) = true := bne_iff_ne.mpr c34
        rw [hLW] at H
        exact absurd H (by simp)
       rw [if_pos c34] at H
       have c34b0 : (t312 == (Go.bits .or .u8 x7_1 t310)) = true := beq_iff_eq.mpr c34
       have c34b1 : (t312 != (Go.bits .or .u8 x7_1 t310)) = false := bne_eq_false_iff_eq.mpr c34
       clear c34
       have H' := Aside0.mk H
       clear H
       have p302 : 0 ≤ (x8_1 : Int) := of_decide_eq_true (by first | (with_reducible assumption) | assumption)
       have q302 : x8_1 < (l1.length : Int) := of_decide_eq_true (by first | (with_reducible assumption) | assumption)
       obtain ⟨ad302, e302, hx302_0, hx302_1⟩ := at_T40 HR1.out x8_1 p302 q302
       cases e302
       replace hx302_0 := (HB.out.cell (World.block_lt_of_cell? w _ hx302_0)).trans hx302_0
       replace hx302_1 := (HB.out.cell (World.block_lt_of_cell? w _ hx302_1)).trans hx302_1
       replace p302 := eq_true p302
       replace q302 := eq_true q302
       go_wp2_with (first | ((with_reducible refine gate_dst (N := 9) rfl ?_); refine gbox (N := 9) (cs := #[.int .i64 0, .int .u64 0]) (t := 40) ?_; intro gb303 hg w35 hbox hb; refine ax7 (IsS38.below (by repeat (first | (with_reducible first | exact HI301.out | apply IsS38.alloc | apply IsS38.drewN | apply IsS38.drew | apply IsS38.set_0) | exact HI301.out)) hb) (below_step (by repeat (first | (with_reducible first | exact HB.out | apply below_alloc | apply pw_below_drewN | apply below_drew1 | refine below_set ?_ (IsS38.ge HI301.out)) | exact HB.out)) hb) hbox ((by rw [hg]; exact (below_size (by repeat (first | (with_reducible first | exact HB.out | apply below_alloc | apply pw_below_drewN | apply below_drew1 | refine below_set ?_ (IsS38.ge HI301.out)) | exact HB.out))) : w.heap.size ≤ gb303)) ((by rw [hg]; exact (below_size (by repeat (first | (with_reducible first | exact HB.out | apply below_alloc | apply pw_below_drewN | apply below_drew1 | refine below_set ?_ (IsS38.ge HI301.out)) | exact HB.out))) : w.heap.size ≤ gb303)) ((by rw [hg]; exact Nat.ne_of_lt (IsS38.lt (show IsS38 w _ gb301 x302000_1 from by repeat (first | (with_reducible first | exact HI301.out | apply IsS38.alloc | apply IsS38.drewN | apply IsS38.drew | apply IsS38.set_0) | exact HI301.out))) : gb301 ≠ gb303)) ((by rw [hg]; exact Nat.ne_of_gt (IsS38.lt (show IsS38 w _ gb301 x302000_1 from by repeat (first | (with_reducible first | exact HI301.out | apply IsS38.alloc | apply IsS38.drewN | apply IsS38.drew | apply IsS38.set_0) | exact HI301.out))) : gb303 ≠ gb301)) ?_; clear HI301; clear HB; intro HI301 HB BK303 GW303 GE303 NB301_303 NB303_301; clear hb hbox hg; have hnb36 := NB303_301.out; have hnc36 := NB301_303.out; have hcz37_0 := bc BK303 0 rfl; have hcz37_1 := bc BK303 1 rfl; have hfz37_0 := blk_frozen BK303.out 0; have hfz37_1 := blk_frozen BK303.out 1) | ((with_reducible refine gate_callee (f := 14) rfl ?_); refine goesL_ (some 62) rfl rfl Try.func14 (by kernel_rfl) rfl #[.int .u64 x0_1, .int .u64 ((rd_T40 l1 x8_1).f1)] rfl ga ?_; (with_reducible refine (soft_Sub.calls kj6 x0_1 ((rd_T40 l1 x8_1).f1) t309 t310 _ A29.out).mono ?_); rintro e w38 ⟨rfl, hb⟩; refine ⟨_, rfl, ?_⟩; refine ax3 (IsS38.below (show IsS38 w ((w35.setCell ⟨gb303, 0, none⟩ (.int .i64 ((rd_T40 l1 x8_1).f0))).setCell ⟨gb303, 1, none⟩ (.int .u64 ((rd_T40 l1 x8_1).f1))) gb301 x302000_1 from by repeat (first | (with_reducible first | exact HI301.out | apply IsS38.alloc | apply IsS38.drewN | apply IsS38.drew | apply IsS38.set_0 | refine IsS38.far ?_ NB301_303.out _) | exact HI301.out)) hb) (blk_below (g := gb303) (o := .cells #[.int .i64 ((rd_T40 l1 x8_1).f0), .int .u64 ((rd_T40 l1 x8_1).f1)] 40 (0, 0)) (by (with_reducible repeat (first | refine blk_drewN ?_ _ | refine blk_drew ?_ | refine blk_alloc ?_ _)); refine blk_put (cs := #[.int .i64 ((rd_T40 l1 x8_1).f0), .int .u64 0]) ?_ 1 _ rfl; (with_reducible repeat (first | refine blk_drewN ?_ _ | refine blk_drew ?_ | refine blk_alloc ?_ _)); refine blk_put (cs := #[.int .i64 0, .int .u64 0]) ?_ 0 _ rfl; (with_reducible repeat (first | refine blk_drewN ?_ _ | refine blk_drew ?_ | refine blk_alloc ?_ _)); exact BK303.out) hb) (below_step (by repeat (first | (with_reducible first | exact HB.out | apply below_alloc | apply pw_below_drewN | apply below_drew1 | refine below_set ?_ (IsS38.ge HI301.out) | refine below_set ?_ GE303.out) | exact HB.out)) hb) ?_; clear HI301; clear BK303; clear HB; intro HI301 BK303 HB; (try clear hb); have hcz39_0 := bc BK303 0 rfl; have hcz39_1 := bc BK303 1 rfl; have hfz39_0 := blk_frozen BK303.out 0; have hfz39_1 := blk_frozen BK303.out 1) | ((with_reducible refine gate_callee (f := 26) rfl ?_); refine goesL_ (some 69) rfl rfl Try.func26 (by kernel_rfl) rfl #[.pointer (some ⟨gb301, 0, none⟩), .int .u64 x0_1, .int .u64 ((rd_T40 l1 x8_1).f1)] rfl ga ?_; (with_reducible refine (soft_Calc_Sub.calls kj6 gb301 x302000_1 x0_1 ((rd_T40 l1 x8_1).f1) t311 t312 w _ ?side1 ?side2 A30.out).mono ?_); (case side1 => repeat (first | (with_reducible first | exact HI301.out | apply IsS38.alloc | apply IsS38.drewN | apply IsS38.drew | apply IsS38.set_0 | refine IsS38.far ?_ NB301_303.out _) | exact HI301.out)); (case side2 => repeat (first | (with_reducible first | exact HB.out | apply below_alloc | apply pw_below_drewN | apply below_drew1 | refine below_set ?_ (IsS38.ge HI301.out) | refine below_set ?_ GE303.out) | exact HB.out)); rintro e w40 ⟨rfl, hi, hb, hk⟩; refine ⟨_, rfl, ?_⟩; refine ax3 (KeepBut.blk hk (g' := gb303) (o := .cells #[.int .i64 ((rd_T40 l1 x8_1).f0), .int .u64 ((rd_T40 l1 x8_1).f1)] 40 (0, 0)) (kb BK303) NB303_301.out (by simp)) hb hi ?_; clear BK303; clear HB; clear HI301; intro BK303 HB HI301; (try clear hb); have hcz41_0 := bc BK303 0 rfl; have hcz41_1 := bc BK303 1 rfl; have hfz41_0 := blk_frozen BK303.out 0; have hfz41_1 := blk_frozen BK303.out 1) | ((with_reducible refine gate_callee (f := 26) rfl ?_); refine goesL_ (some 74) rfl rfl Try.func26 (by kernel_rfl) rfl #[.pointer none, .int .u64 x0_1, .int .u64 ((rd_T40 l1 x8_1).f1)] rfl ga ?_; (with_reducible refine (soft_Calc_Sub_nil.calls kj6  x0_1 ((rd_T40 l1 x8_1).f1) t313 _ A31.out).mono ?_); rintro e w42 ⟨rfl, hb⟩; refine ⟨_, rfl, ?_⟩; refine ax3 (IsS38.below (by repeat (first | (with_reducible first | exact HI301.out | apply IsS38.alloc | apply IsS38.drewN | apply IsS38.drew | apply IsS38.set_0 | refine IsS38.far ?_ NB301_303.out _) | exact HI301.out)) hb) (bb BK303 hb) (below_step (by repeat (first | (with_reducible first | exact HB.out | apply below_alloc | apply pw_below_drewN | apply below_drew1 | refine below_set ?_ (IsS38.ge HI301.out) | refine below_set ?_ GE303.out) | exact HB.out)) hb) ?_; clear HI301; clear BK303; clear HB; intro HI301 BK303 HB; (try clear hb); obtain ⟨HGz43, hgz43⟩ := HI301.out; have hcz43_0 := cellS38_0 HGz43; have hfz43_0 := blk_frozen HGz43 0; clear HGz43 hgz43))
       go_roundg kj6
       case measure => have := HK1.out; have := HJ6.out; omega
       case rel => exact ⟨(t311), (Go.bits .or .u8 x7_1 t310), (wrap64 (x8_1 + 1)), (t312), (by first | rfl | (simp; done) | (simp [*]; done)), (by first | rfl | (simp; done) | (simp [*]; done)), (by first | rfl | (simp; done) | (simp [*]; done)), H', ⟨by have := HK1.out; have := HJ6.out; omega⟩, ⟨by repeat (first | (with_reducible first | exact HI301.out | apply IsS38.alloc | apply IsS38.drewN | apply IsS38.drew | apply IsS38.set_0 | refine IsS38.far ?_ NB301_303.out _) | exact HI301.out)⟩, ⟨by repeat (first | (with_reducible first | exact HB.out | apply below_alloc | apply pw_below_drewN | apply below_drew1 | refine below_set ?_ (IsS38.ge HI301.out) | refine below_set ?_ GE303.out) | exact HB.out)⟩⟩
      ·
       rw [if_neg c28] at H
       have c28b0 : (((rd_T40 l1 x8_1).f0) == 1) = false := beq_eq_false_iff_ne.mpr c28
       have c28b1 : (((rd_T40 l1 x8_1).f0) != 1) = true := bne_iff_ne.mpr c28
       by_cases c44 : ((rd_T40 l1 x8_1).f0) = 2
       ·
        rw [if_pos c44] at H
        have c44b0 : (((rd_T40 l1 x8_1).f0) == 2) = true := beq_iff_eq.mpr c44
        have c44b1 : (((rd_T40 l1 x8_1).f0) != 2) = false := bne_eq_false_iff_eq.mpr c44
        clear c44
        obtain ⟨⟨t314, t315⟩, A450, H⟩ := Option.bind_eq_some_iff.mp H
        (try dsimp -simprocs only at H)
        have A45 := Aside0.mk A450
        clear A450
        obtain ⟨⟨t316, t317⟩, A460, H⟩ := Option.bind_eq_some_iff.mp H
        (try dsimp -simprocs only at H)
        have A46 := Aside0.mk A460
        clear A460
        obtain ⟨t318, A470, H⟩ := Option.bind_eq_some_iff.mp H
        (try dsimp -simprocs only at H)
        have A47 := Aside0.mk A470
        clear A470
        by_cases c48 : t316 = t314
        rotate_left
        ·
         rw [if_neg c48] at H
         have c48b0 : (t316 == t314) = false := beq_eq_false_iff_ne.mpr c48
         have c48b1 : (t316 != t314) = true := bne_iff_ne.mpr c48
         rw [hLW] at H
         exact absurd H (by simp)
        rw [if_pos c48] at H
        have c48b0 : (t316 == t314) = true := beq_iff_eq.mpr c48
        have c48b1 : (t316 != t314) = false := bne_eq_false_iff_eq.mpr c48
        clear c48
        by_cases c49 : t318 = t314
        rotate_left
        ·
         rw [if_neg c49] at H
         have c49b0 : (t318 == t314) = false := beq_eq_false_iff_ne.mpr c49
         have c49b1 : (t318 != t314) = true := bne_iff_ne.mpr c49
         rw [hLW] at H
         exact absurd H (by simp)
        rw [if_pos c49] at H
        have c49b0 : (t318 == t314) = true := beq_iff_eq.mpr c49
        have c49b1 : (t318 != t314) = false := bne_eq_false_iff_eq.mpr c49
        clear c49
        by_cases c50 : t317 = (Go.bits .or .u8 x7_1 t315)
        rotate_left
        ·
         rw [if_neg c50] at H
         have c50b0 : (t317 == (Go.bits .or .u8 x7_1 t315)) = false := beq_eq_false_iff_ne.mpr c50
         have c50b1 : (t317 != (Go.bits .or .u8 x7_1 t315)) = true := bne_iff_ne.mpr c50
         rw [hLW] at H
         exact absurd H (by simp)
        rw [if_pos c50] at H
        have c50b0 : (t317 == (Go.bits .or .u8 x7_1 t315)) = true := beq_iff_eq.mpr c50
        have c50b1 : (t317 != (Go.bits .or .u8 x7_1 t315)) = false := bne_eq_false_iff_eq.mpr c50
        clear c50
        have H' := Aside0.mk H
        clear H
        have p302 : 0 ≤ (x8_1 : Int) := of_decide_eq_true (by first | (with_reducible assumption) | assumption)
        have q302 : x8_1 < (l1.length : Int) := of_decide_eq_true (by first | (with_reducible assumption) | assumption)
        obtain ⟨ad302, e302, hx302_0, hx302_1⟩ := at_T40 HR1.out x8_1 p302 q302
        cases e302
        replace hx302_0 := (HB.out.cell (World.block_lt_of_cell? w _ hx302_0)).trans hx302_0
        replace hx302_1 := (HB.out.cell (World.block_lt_of_cell? w _ hx302_1)).trans hx302_1
        replace p302 := eq_true p302
        replace q302 := eq_true q302
        go_wp2_with (first | ((with_reducible refine gate_dst (N := 9) rfl ?_); refine gbox (N := 9) (cs := #[.int .i64 0, .int .u64 0]) (t := 40) ?_; intro gb303 hg w51 hbox hb; refine ax7 (IsS38.below (by repeat (first | (with_reducible first | exact HI301.out | apply IsS38.alloc | apply IsS38.drewN | apply IsS38.drew | apply IsS38.set_0) | exact HI301.out)) hb) (below_step (by repeat (first | (with_reducible first | exact HB.out | apply below_alloc | apply pw_below_drewN | apply below_drew1 | refine below_set ?_ (IsS38.ge HI301.out)) | exact HB.out)) hb) hbox ((by rw [hg]; exact (below_size (by repeat (first | (with_reducible first | exact HB.out | apply below_alloc | apply pw_below_drewN | apply below_drew1 | refine below_set ?_ (IsS38.ge HI301.out)) | exact HB.out))) : w.heap.size ≤ gb303)) ((by rw [hg]; exact (below_size (by repeat (first | (with_reducible first | exact HB.out | apply below_alloc | apply pw_below_drewN | apply below_drew1 | refine below_set ?_ (IsS38.ge HI301.out)) | exact HB.out))) : w.heap.size ≤ gb303)) ((by rw [hg]; exact Nat.ne_of_lt (IsS38.lt (show IsS38 w _ gb301 x302000_1 from by repeat (first | (with_reducible first | exact HI301.out | apply IsS38.alloc | apply IsS38.drewN | apply IsS38.drew | apply IsS38.set_0) | exact HI301.out))) : gb301 ≠ gb303)) ((by rw [hg]; exact Nat.ne_of_gt (IsS38.lt (show IsS38 w _ gb301 x302000_1 from by repeat (first | (with_reducible first | exact HI301.out | apply IsS38.alloc | apply IsS38.drewN | apply IsS38.drew | apply IsS38.set_0) | exact HI301.out))) : gb303 ≠ gb301)) ?_; clear HI301; clear HB; intro HI301 HB BK303 GW303 GE303 NB301_303 NB303_301; clear hb hbox hg; have hnb52 := NB303_301.out; have hnc52 := NB301_303.out; have hcz53_0 := bc BK303 0 rfl; have hcz53_1 := bc BK303 1 rfl; have hfz53_0 := blk_frozen BK303.out 0; have hfz53_1 := blk_frozen BK303.out 1) | ((with_reducible refine gate_callee (f := 21) rfl ?_); refine goesL_ (some 81) rfl rfl Try.func21 (by kernel_rfl) rfl #[.int .u64 x0_1, .int .u64 ((rd_T40 l1 x8_1).f1)] rfl ga ?_; (with_reducible refine (soft_Mul.calls kj6 x0_1 ((rd_T40 l1 x8_1).f1) t314 t315 _ A45.out).mono ?_); rintro e w54 ⟨rfl, hb⟩; refine ⟨_, rfl, ?_⟩; refine ax3 (IsS38.below (show IsS38 w ((w51.setCell ⟨gb303, 0, none⟩ (.int .i64 ((rd_T40 l1 x8_1).f0))).setCell ⟨gb303, 1, none⟩ (.int .u64 ((rd_T40 l1 x8_1).f1))) gb301 x302000_1 from by repeat (first | (with_reducible first | exact HI301.out | apply IsS38.alloc | apply IsS38.drewN | apply IsS38.drew | apply IsS38.set_0 | refine IsS38.far ?_ NB301_303.out _) | exact HI301.out)) hb) (blk_below (g := gb303) (o := .cells #[.int .i64 ((rd_T40 l1 x8_1).f0), .int .u64 ((rd_T40 l1 x8_1).f1)] 40 (0, 0)) (by (with_reducible repeat (first | refine blk_drewN ?_ _ | refine blk_drew ?_ | refine blk_alloc ?_ _)); refine blk_put (cs := #[.int .i64 ((rd_T40 l1 x8_1).f0), .int .u64 0]) ?_ 1 _ rfl; (with_reducible repeat (first | refine blk_drewN ?_ _ | refine blk_drew ?_ | refine blk_alloc ?_ _)); refine blk_put (cs := #[.int .i64 0, .int .u64 0]) ?_ 0 _ rfl; (with_reducible repeat (first | refine blk_drewN ?_ _ | refine blk_drew ?_ | refine blk_alloc ?_ _)); exact BK303.out) hb) (below_step (by repeat (first | (with_reducible first | exact HB.out | apply below_alloc | apply pw_below_drewN | apply below_drew1 | refine below_set ?_ (IsS38.ge HI301.out) | refine below_set ?_ GE303.out) | exact HB.out)) hb) ?_; clear HI301; clear BK303; clear HB; intro HI301 BK303 HB; (try clear hb); have hcz55_0 := bc BK303 0 rfl; have hcz55_1 := bc BK303 1 rfl; have hfz55_0 := blk_frozen BK303.out 0; have hfz55_1 := blk_frozen BK303.out 1) | ((with_reducible refine gate_callee (f := 27) rfl ?_); refine goesL_ (some 88) rfl rfl Try.func27 (by kernel_rfl) rfl #[.pointer (some ⟨gb301, 0, none⟩), .int .u64 x0_1, .int .u64 ((rd_T40 l1 x8_1).f1)] rfl ga ?_; (with_reducible refine (soft_Calc_Mul.calls kj6 gb301 x302000_1 x0_1 ((rd_T40 l1 x8_1).f1) t316 t317 w _ ?side1 ?side2 A46.out).mono ?_); (case side1 => repeat (first | (with_reducible first | exact HI301.out | apply IsS38.alloc | apply IsS38.drewN | apply IsS38.drew | apply IsS38.set_0 | refine IsS38.far ?_ NB301_303.out _) | exact HI301.out)); (case side2 => repeat (first | (with_reducible first | exact HB.out | apply below_alloc | apply pw_below_drewN | apply below_drew1 | refine below_set ?_ (IsS38.ge HI301.out) | refine below_set ?_ GE303.out) | exact HB.out)); rintro e w56 ⟨rfl, hi, hb, hk⟩; refine ⟨_, rfl, ?_⟩; refine ax3 (KeepBut.blk hk (g' := gb303) (o := .cells #[.int .i64 ((rd_T40 l1 x8_1).f0), .int .u64 ((rd_T40 l1 x8_1).f1)] 40 (0, 0)) (kb BK303) NB303_301.out (by simp)) hb hi ?_; clear BK303; clear HB; clear HI301; intro BK303 HB HI301; (try clear hb); have hcz57_0 := bc BK303 0 rfl; have hcz57_1 := bc BK303 1 rfl; have hfz57_0 := blk_frozen BK303.out 0; have hfz57_1 := blk_frozen BK303.out 1) | ((with_reducible refine gate_callee (f := 27) rfl ?_); refine goesL_ (some 93) rfl rfl Try.func27 (by kernel_rfl) rfl #[.pointer none, .int .u64 x0_1, .int .u64 ((rd_T40 l1 x8_1).f1)] rfl ga ?_; (with_reducible refine (soft_Calc_Mul_nil.calls kj6  x0_1 ((rd_T40 l1 x8_1).f1) t318 _ A47.out).mono ?_); rintro e w58 ⟨rfl, hb⟩; refine ⟨_, rfl, ?_⟩; refine ax3 (IsS38.below (by repeat (first | (with_reducible first | exact HI301.out | apply IsS38.alloc | apply IsS38.drewN | apply IsS38.drew | apply IsS38.set_0 | refine IsS38.far ?_ NB301_303.out _) | exact HI301.out)) hb) (bb BK303 hb) (below_step (by repeat (first | (with_reducible first | exact HB.out | apply below_alloc | apply pw_below_drewN | apply below_drew1 | refine below_set ?_ (IsS38.ge HI301.out) | refine below_set ?_ GE303.out) | exact HB.out)) hb) ?_; clear HI301; clear BK303; clear HB; intro HI301 BK303 HB; (try clear hb); obtain ⟨HGz59, hgz59⟩ := HI301.out; have hcz59_0 := cellS38_0 HGz59; have hfz59_0 := blk_frozen HGz59 0; clear HGz59 hgz59))
        go_roundg kj6
        case measure => have := HK1.out; have := HJ6.out; omega
        case rel => exact ⟨(t316), (Go.bits .or .u8 x7_1 t315), (wrap64 (x8_1 + 1)), (t317), (by first | rfl | (simp; done) | (simp [*]; done)), (by first | rfl | (simp; done) | (simp [*]; done)), (by first | rfl | (simp; done) | (simp [*]; done)), H', ⟨by have := HK1.out; have := HJ6.out; omega⟩, ⟨by repeat (first | (with_reducible first | exact HI301.out | apply IsS38.alloc | apply IsS38.drewN | apply IsS38.drew | apply IsS38.set_0 | refine IsS38.far ?_ NB301_303.out _) | exact HI301.out)⟩, ⟨by repeat (first | (with_reducible first | exact HB.out | apply below_alloc | apply pw_below_drewN | apply below_drew1 | refine below_set ?_ (IsS38.ge HI301.out) | refine below_set ?_ GE303.out) | exact HB.out)⟩⟩
       ·
        rw [if_neg c44] at H
        have c44b0 : (((rd_T40 l1 x8_1).f0) == 2) = false := beq_eq_false_iff_ne.mpr c44
        have c44b1 : (((rd_T40 l1 x8_1).f0) != 2) = true := bne_iff_ne.mpr c44
        by_cases c60 : ((rd_T40 l1 x8_1).f0) = 3
        ·
         rw [if_pos c60] at H
         have c60b0 : (((rd_T40 l1 x8_1).f0) == 3) = true := beq_iff_eq.mpr c60
         have c60b1 : (((rd_T40 l1 x8_1).f0) != 3) = false := bne_eq_false_iff_eq.mpr c60
         clear c60
         obtain ⟨⟨t319, t320⟩, A610, H⟩ := Option.bind_eq_some_iff.mp H
         (try dsimp -simprocs only at H)
         have A61 := Aside0.mk A610
         clear A610
         obtain ⟨⟨t321, t322⟩, A620, H⟩ := Option.bind_eq_some_iff.mp H
         (try dsimp -simprocs only at H)
         have A62 := Aside0.mk A620
         clear A620
         obtain ⟨t323, A630, H⟩ := Option.bind_eq_some_iff.mp H
         (try dsimp -simprocs only at H)
         have A63 := Aside0.mk A630
         clear A630
         by_cases c64 : t321 = t319
         rotate_left
         ·
          rw [if_neg c64] at H
          have c64b0 : (t321 == t319) = false := beq_eq_false_iff_ne.mpr c64
          have c64b1 : (t321 != t319) = true := bne_iff_ne.mpr c64
          rw [hLW] at H
          exact absurd H (by simp)
         rw [if_pos c64] at H
         have c64b0 : (t321 == t319) = true := beq_iff_eq.mpr c64
         have c64b1 : (t321 != t319) = false := bne_eq_false_iff_eq.mpr c64
         clear c64
         by_cases c65 : t323 = t319
         rotate_left
         ·
          rw [if_neg c65] at H
          have c65b0 : (t323 == t319) = false := beq_eq_false_iff_ne.mpr c65
          have c65b1 : (t323 != t319) = true := bne_iff_ne.mpr c65
          rw [hLW] at H
          exact absurd H (by simp)
         rw [if_pos c65] at H
         have c65b0 : (t323 == t319) = true := beq_iff_eq.mpr c65
         have c65b1 : (t323 != t319) = false := bne_eq_false_iff_eq.mpr c65
         clear c65
         by_cases c66 : t322 = (Go.bits .or .u8 x7_1 t320)
         rotate_left
         ·
          rw [if_neg c66] at H
          have c66b0 : (t322 == (Go.bits .or .u8 x7_1 t320)) = false := beq_eq_false_iff_ne.mpr c66
          have c66b1 : (t322 != (Go.bits .or .u8 x7_1 t320)) = true := bne_iff_ne.mpr c66
          rw [hLW] at H
          exact absurd H (by simp)
         rw [if_pos c66] at H
         have c66b0 : (t322 == (Go.bits .or .u8 x7_1 t320)) = true := beq_iff_eq.mpr c66
         have c66b1 : (t322 != (Go.bits .or .u8 x7_1 t320)) = false := bne_eq_false_iff_eq.mpr c66
         clear c66
         have H' := Aside0.mk H
         clear H
         have p302 : 0 ≤ (x8_1 : Int) := of_decide_eq_true (by first | (with_reducible assumption) | assumption)
         have q302 : x8_1 < (l1.length : Int) := of_decide_eq_true (by first | (with_reducible assumption) | assumption)
         obtain ⟨ad302, e302, hx302_0, hx302_1⟩ := at_T40 HR1.out x8_1 p302 q302
         cases e302
         replace hx302_0 := (HB.out.cell (World.block_lt_of_cell? w _ hx302_0)).trans hx302_0
         replace hx302_1 := (HB.out.cell (World.block_lt_of_cell? w _ hx302_1)).trans hx302_1
         replace p302 := eq_true p302
         replace q302 := eq_true q302
         go_wp2_with (first | ((with_reducible refine gate_dst (N := 9) rfl ?_); refine gbox (N := 9) (cs := #[.int .i64 0, .int .u64 0]) (t := 40) ?_; intro gb303 hg w67 hbox hb; refine ax7 (IsS38.below (by repeat (first | (with_reducible first | exact HI301.out | apply IsS38.alloc | apply IsS38.drewN | apply IsS38.drew | apply IsS38.set_0) | exact HI301.out)) hb) (below_step (by repeat (first | (with_reducible first | exact HB.out | apply below_alloc | apply pw_below_drewN | apply below_drew1 | refine below_set ?_ (IsS38.ge HI301.out)) | exact HB.out)) hb) hbox ((by rw [hg]; exact (below_size (by repeat (first | (with_reducible first | exact HB.out | apply below_alloc | apply pw_below_drewN | apply below_drew1 | refine below_set ?_ (IsS38.ge HI301.out)) | exact HB.out))) : w.heap.size ≤ gb303)) ((by rw [hg]; exact (below_size (by repeat (first | (with_reducible first | exact HB.out | apply below_alloc | apply pw_below_drewN | apply below_drew1 | refine below_set ?_ (IsS38.ge HI301.out)) | exact HB.out))) : w.heap.size ≤ gb303)) ((by rw [hg]; exact Nat.ne_of_lt (IsS38.lt (show IsS38 w _ gb301 x302000_1 from by repeat (first | (with_reducible first | exact HI301.out | apply IsS38.alloc | apply IsS38.drewN | apply IsS38.drew | apply IsS38.set_0) | exact HI301.out))) : gb301 ≠ gb303)) ((by rw [hg]; exact Nat.ne_of_gt (IsS38.lt (show IsS38 w _ gb301 x302000_1 from by repeat (first | (with_reducible first | exact HI301.out | apply IsS38.alloc | apply IsS38.drewN | apply IsS38.drew | apply IsS38.set_0) | exact HI301.out))) : gb303 ≠ gb301)) ?_; clear HI301; clear HB; intro HI301 HB BK303 GW303 GE303 NB301_303 NB303_301; clear hb hbox hg; have hnb68 := NB303_301.out; have hnc68 := NB301_303.out; have hcz69_0 := bc BK303 0 rfl; have hcz69_1 := bc BK303 1 rfl; have hfz69_0 := blk_frozen BK303.out 0; have hfz69_1 := blk_frozen BK303.out 1) | ((with_reducible refine gate_callee (f := 16) rfl ?_); refine goesL_ (some 100) rfl rfl Try.func16 (by kernel_rfl) rfl #[.int .u64 x0_1, .int .u64 ((rd_T40 l1 x8_1).f1)] rfl ga ?_; (with_reducible refine (soft_Div.calls kj6 x0_1 ((rd_T40 l1 x8_1).f1) t319 t320 _ A61.out).mono ?_); rintro e w70 ⟨rfl, hb⟩; refine ⟨_, rfl, ?_⟩; refine ax3 (IsS38.below (show IsS38 w ((w67.setCell ⟨gb303, 0, none⟩ (.int .i64 ((rd_T40 l1 x8_1).f0))).setCell ⟨gb303, 1, none⟩ (.int .u64 ((rd_T40 l1 x8_1).f1))) gb301 x302000_1 from by repeat (first | (with_reducible first | exact HI301.out | apply IsS38.alloc | apply IsS38.drewN | apply IsS38.drew | apply IsS38.set_0 | refine IsS38.far ?_ NB301_303.out _) | exact HI301.out)) hb) (blk_below (g := gb303) (o := .cells #[.int .i64 ((rd_T40 l1 x8_1).f0), .int .u64 ((rd_T40 l1 x8_1).f1)] 40 (0, 0)) (by (with_reducible repeat (first | refine blk_drewN ?_ _ | refine blk_drew ?_ | refine blk_alloc ?_ _)); refine blk_put (cs := #[.int .i64 ((rd_T40 l1 x8_1).f0), .int .u64 0]) ?_ 1 _ rfl; (with_reducible repeat (first | refine blk_drewN ?_ _ | refine blk_drew ?_ | refine blk_alloc ?_ _)); refine blk_put (cs := #[.int .i64 0, .int .u64 0]) ?_ 0 _ rfl; (with_reducible repeat (first | refine blk_drewN ?_ _ | refine blk_drew ?_ | refine blk_alloc ?_ _)); exact BK303.out) hb) (below_step (by repeat (first | (with_reducible first | exact HB.out | apply below_alloc | apply pw_below_drewN | apply below_drew1 | refine below_set ?_ (IsS38.ge HI301.out) | refine below_set ?_ GE303.out) | exact HB.out)) hb) ?_; clear HI301; clear BK303; clear HB; intro HI301 BK303 HB; (try clear hb); have hcz71_0 := bc BK303 0 rfl; have hcz71_1 := bc BK303 1 rfl; have hfz71_0 := blk_frozen BK303.out 0; have hfz71_1 := blk_frozen BK303.out 1) | ((with_reducible refine gate_callee (f := 28) rfl ?_); refine goesL_ (some 107) rfl rfl Try.func28 (by kernel_rfl) rfl #[.pointer (some ⟨gb301, 0, none⟩), .int .u64 x0_1, .int .u64 ((rd_T40 l1 x8_1).f1)] rfl ga ?_; (with_reducible refine (soft_Calc_Div.calls kj6 gb301 x302000_1 x0_1 ((rd_T40 l1 x8_1).f1) t321 t322 w _ ?side1 ?side2 A62.out).mono ?_); (case side1 => repeat (first | (with_reducible first | exact HI301.out | apply IsS38.alloc | apply IsS38.drewN | apply IsS38.drew | apply IsS38.set_0 | refine IsS38.far ?_ NB301_303.out _) | exact HI301.out)); (case side2 => repeat (first | (with_reducible first | exact HB.out | apply below_alloc | apply pw_below_drewN | apply below_drew1 | refine below_set ?_ (IsS38.ge HI301.out) | refine below_set ?_ GE303.out) | exact HB.out)); rintro e w72 ⟨rfl, hi, hb, hk⟩; refine ⟨_, rfl, ?_⟩; refine ax3 (KeepBut.blk hk (g' := gb303) (o := .cells #[.int .i64 ((rd_T40 l1 x8_1).f0), .int .u64 ((rd_T40 l1 x8_1).f1)] 40 (0, 0)) (kb BK303) NB303_301.out (by simp)) hb hi ?_; clear BK303; clear HB; clear HI301; intro BK303 HB HI301; (try clear hb); have hcz73_0 := bc BK303 0 rfl; have hcz73_1 := bc BK303 1 rfl; have hfz73_0 := blk_frozen BK303.out 0; have hfz73_1 := blk_frozen BK303.out 1) | ((with_reducible refine gate_callee (f := 28) rfl ?_); refine goesL_ (some 112) rfl rfl Try.func28 (by kernel_rfl) rfl #[.pointer none, .int .u64 x0_1, .int .u64 ((rd_T40 l1 x8_1).f1)] rfl ga ?_; (with_reducible refine (soft_Calc_Div_nil.calls kj6  x0_1 ((rd_T40 l1 x8_1).f1) t323 _ A63.out).mono ?_); rintro e w74 ⟨rfl, hb⟩; refine ⟨_, rfl, ?_⟩; refine ax3 (IsS38.below (by repeat (first | (with_reducible first | exact HI301.out | apply IsS38.alloc | apply IsS38.drewN | apply IsS38.drew | apply IsS38.set_0 | refine IsS38.far ?_ NB301_303.out _) | exact HI301.out)) hb) (bb BK303 hb) (below_step (by repeat (first | (with_reducible first | exact HB.out | apply below_alloc | apply pw_below_drewN | apply below_drew1 | refine below_set ?_ (IsS38.ge HI301.out) | refine below_set ?_ GE303.out) | exact HB.out)) hb) ?_; clear HI301; clear BK303; clear HB; intro HI301 BK303 HB; (try clear hb); obtain ⟨HGz75, hgz75⟩ := HI301.out; have hcz75_0 := cellS38_0 HGz75; have hfz75_0 := blk_frozen HGz75 0; clear HGz75 hgz75))
         go_roundg kj6
         case measure => have := HK1.out; have := HJ6.out; omega
         case rel => exact ⟨(t321), (Go.bits .or .u8 x7_1 t320), (wrap64 (x8_1 + 1)), (t322), (by first | rfl | (simp; done) | (simp [*]; done)), (by first | rfl | (simp; done) | (simp [*]; done)), (by first | rfl | (simp; done) | (simp [*]; done)), H', ⟨by have := HK1.out; have := HJ6.out; omega⟩, ⟨by repeat (first | (with_reducible first | exact HI301.out | apply IsS38.alloc | apply IsS38.drewN | apply IsS38.drew | apply IsS38.set_0 | refine IsS38.far ?_ NB301_303.out _) | exact HI301.out)⟩, ⟨by repeat (first | (with_reducible first | exact HB.out | apply below_alloc | apply pw_below_drewN | apply below_drew1 | refine below_set ?_ (IsS38.ge HI301.out) | refine below_set ?_ GE303.out) | exact HB.out)⟩⟩
        ·
         rw [if_neg c60] at H
         have c60b0 : (((rd_T40 l1 x8_1).f0) == 3) = false := beq_eq_false_iff_ne.mpr c60
         have c60b1 : (((rd_T40 l1 x8_1).f0) != 3) = true := bne_iff_ne.mpr c60
         by_cases c76 : ((rd_T40 l1 x8_1).f0) = 4
         ·
          rw [if_pos c76] at H
          have c76b0 : (((rd_T40 l1 x8_1).f0) == 4) = true := beq_iff_eq.mpr c76
          have c76b1 : (((rd_T40 l1 x8_1).f0) != 4) = false := bne_eq_false_iff_eq.mpr c76
          clear c76
          obtain ⟨⟨t324, t325⟩, A770, H⟩ := Option.bind_eq_some_iff.mp H
          (try dsimp -simprocs only at H)
          have A77 := Aside0.mk A770
          clear A770
          obtain ⟨t326, A780, H⟩ := Option.bind_eq_some_iff.mp H
          (try dsimp -simprocs only at H)
          have A78 := Aside0.mk A780
          clear A780
          by_cases c79 : t324 = x0_1
          rotate_left
          ·
           rw [if_neg c79] at H
           have c79b0 : (t324 == x0_1) = false := beq_eq_false_iff_ne.mpr c79
           have c79b1 : (t324 != x0_1) = true := bne_iff_ne.mpr c79
           rw [hLW] at H
           exact absurd H (by simp)
          rw [if_pos c79] at H
          have c79b0 : (t324 == x0_1) = true := beq_iff_eq.mpr c79
          have c79b1 : (t324 != x0_1) = false := bne_eq_false_iff_eq.mpr c79
          clear c79
          by_cases c80 : t326 = x0_1
          rotate_left
          ·
           rw [if_neg c80] at H
           have c80b0 : (t326 == x0_1) = false := beq_eq_false_iff_ne.mpr c80
           have c80b1 : (t326 != x0_1) = true := bne_iff_ne.mpr c80
           rw [hLW] at H
           exact absurd H (by simp)
          rw [if_pos c80] at H
          have c80b0 : (t326 == x0_1) = true := beq_iff_eq.mpr c80
          have c80b1 : (t326 != x0_1) = false := bne_eq_false_iff_eq.mpr c80
          clear c80
          by_cases c81 : t325 = (Go.bits .or .u8 x7_1 ((Go.bits .and .u64 ((rd_T40 l1 x8_1).f1) 31) % 256))
          rotate_left
          ·
           rw [if_neg c81] at H
           have c81b0 : (t325 == (Go.bits .or .u8 x7_1 ((Go.bits .and .u64 ((rd_T40 l1 x8_1).f1) 31) % 256))) = false := beq_eq_false_iff_ne.mpr c81
           have c81b1 : (t325 != (Go.bits .or .u8 x7_1 ((Go.bits .and .u64 ((rd_T40 l1 x8_1).f1) 31) % 256))) = true := bne_iff_ne.mpr c81
           rw [hLW] at H
           exact absurd H (by simp)
          rw [if_pos c81] at H
          have c81b0 : (t325 == (Go.bits .or .u8 x7_1 ((Go.bits .and .u64 ((rd_T40 l1 x8_1).f1) 31) % 256))) = true := beq_iff_eq.mpr c81
          have c81b1 : (t325 != (Go.bits .or .u8 x7_1 ((Go.bits .and .u64 ((rd_T40 l1 x8_1).f1) 31) % 256))) = false := bne_eq_false_iff_eq.mpr c81
          clear c81
          have H' := Aside0.mk H
          clear H
          have p302 : 0 ≤ (x8_1 : Int) := of_decide_eq_true (by first | (with_reducible assumption) | assumption)
          have q302 : x8_1 < (l1.length : Int) := of_decide_eq_true (by first | (with_reducible assumption) | assumption)
          obtain ⟨ad302, e302, hx302_0, hx302_1⟩ := at_T40 HR1.out x8_1 p302 q302
          cases e302
          replace hx302_0 := (HB.out.cell (World.block_lt_of_cell? w _ hx302_0)).trans hx302_0
          replace hx302_1 := (HB.out.cell (World.block_lt_of_cell? w _ hx302_1)).trans hx302_1
          replace p302 := eq_true p302
          replace q302 := eq_true q302
          go_wp2_with (first | ((with_reducible refine gate_dst (N := 9) rfl ?_); refine gbox (N := 9) (cs := #[.int .i64 0, .int .u64 0]) (t := 40) ?_; intro gb303 hg w82 hbox hb; refine ax7 (IsS38.below (by repeat (first | (with_reducible first | exact HI301.out | apply IsS38.alloc | apply IsS38.drewN | apply IsS38.drew | apply IsS38.set_0) | exact HI301.out)) hb) (below_step (by repeat (first | (with_reducible first | exact HB.out | apply below_alloc | apply pw_below_drewN | apply below_drew1 | refine below_set ?_ (IsS38.ge HI301.out)) | exact HB.out)) hb) hbox ((by rw [hg]; exact (below_size (by repeat (first | (with_reducible first | exact HB.out | apply below_alloc | apply pw_below_drewN | apply below_drew1 | refine below_set ?_ (IsS38.ge HI301.out)) | exact HB.out))) : w.heap.size ≤ gb303)) ((by rw [hg]; exact (below_size (by repeat (first | (with_reducible first | exact HB.out | apply below_alloc | apply pw_below_drewN | apply below_drew1 | refine below_set ?_ (IsS38.ge HI301.out)) | exact HB.out))) : w.heap.size ≤ gb303)) ((by rw [hg]; exact Nat.ne_of_lt (IsS38.lt (show IsS38 w _ gb301 x302000_1 from by repeat (first | (with_reducible first | exact HI301.out | apply IsS38.alloc | apply IsS38.drewN | apply IsS38.drew | apply IsS38.set_0) | exact HI301.out))) : gb301 ≠ gb303)) ((by rw [hg]; exact Nat.ne_of_gt (IsS38.lt (show IsS38 w _ gb301 x302000_1 from by repeat (first | (with_reducible first | exact HI301.out | apply IsS38.alloc | apply IsS38.drewN | apply IsS38.drew | apply IsS38.set_0) | exact HI301.out))) : gb303 ≠ gb301)) ?_; clear HI301; clear HB; intro HI301 HB BK303 GW303 GE303 NB301_303 NB303_301; clear hb hbox hg; have hnb83 := NB303_301.out; have hnc83 := NB301_303.out; have hcz84_0 := bc BK303 0 rfl; have hcz84_1 := bc BK303 1 rfl; have hfz84_0 := blk_frozen BK303.out 0; have hfz84_1 := blk_frozen BK303.out 1) | ((with_reducible refine gate_callee (f := 29) rfl ?_); refine goesL_ (some 122) rfl rfl Try.func29 (by kernel_rfl) rfl #[.pointer (some ⟨gb301, 0, none⟩), .int .u64 x0_1, .int .u8 ((Go.bits .and .u64 ((rd_T40 l1 x8_1).f1) 31) % 256)] rfl ga ?_; (with_reducible refine (soft_Calc_Note.calls gb301 x302000_1 x0_1 ((Go.bits .and .u64 ((rd_T40 l1 x8_1).f1) 31) % 256) t324 t325 w _ ?side1 ?side2 A77.out).mono ?_); (case side1 => repeat (first | (with_reducible first | exact HI301.out | apply IsS38.alloc | apply IsS38.drewN | apply IsS38.drew | apply IsS38.set_0 | refine IsS38.far ?_ NB301_303.out _) | exact HI301.out)); (case side2 => repeat (first | (with_reducible first | exact HB.out | apply below_alloc | apply pw_below_drewN | apply below_drew1 | refine below_set ?_ (IsS38.ge HI301.out) | refine below_set ?_ GE303.out) | exact HB.out)); rintro e w85 ⟨rfl, hi, hb, hk⟩; refine ⟨_, rfl, ?_⟩; refine ax3 (KeepBut.blk hk (g' := gb303) (o := .cells #[.int .i64 ((rd_T40 l1 x8_1).f0), .int .u64 ((rd_T40 l1 x8_1).f1)] 40 (0, 0)) (by (with_reducible repeat (first | refine blk_drewN ?_ _ | refine blk_drew ?_ | refine blk_alloc ?_ _)); refine blk_put (cs := #[.int .i64 ((rd_T40 l1 x8_1).f0), .int .u64 0]) ?_ 1 _ rfl; (with_reducible repeat (first | refine blk_drewN ?_ _ | refine blk_drew ?_ | refine blk_alloc ?_ _)); refine blk_put (cs := #[.int .i64 0, .int .u64 0]) ?_ 0 _ rfl; (with_reducible repeat (first | refine blk_drewN ?_ _ | refine blk_drew ?_ | refine blk_alloc ?_ _)); exact BK303.out) NB303_301.out (by simp)) hb hi ?_; clear BK303; clear HB; clear HI301; intro BK303 HB HI301; (try clear hb)) | ((with_reducible refine gate_callee (f := 29) rfl ?_); refine goesL_ (some 126) rfl rfl Try.func29 (by kernel_rfl) rfl #[.pointer none, .int .u64 x0_1, .int .u8 ((Go.bits .and .u64 ((rd_T40 l1 x8_1).f1) 31) % 256)] rfl ga ?_; (with_reducible refine (soft_Calc_Note_nil.calls  x0_1 ((Go.bits .and .u64 ((rd_T40 l1 x8_1).f1) 31) % 256) t326 _ A78.out).mono ?_); rintro e w' ⟨rfl, ⟨nd, rfl⟩⟩; refine ⟨_, rfl, ?_⟩; obtain ⟨HGz86, hgz86⟩ := HI301.out; have hcz86_0 := cellS38_0 HGz86; have hfz86_0 := blk_frozen HGz86 0; clear HGz86 hgz86))
          go_roundg kj6
          case measure => have := HK1.out; have := HJ6.out; omega
          case rel => exact ⟨(t324), (Go.bits .or .u8 x7_1 ((Go.bits .and .u64 ((rd_T40 l1 x8_1).f1) 31) % 256)), (wrap64 (x8_1 + 1)), (t325), (by first | rfl | (simp; done) | (simp [*]; done)), (by first | rfl | (simp; done) | (simp [*]; done)), (by first | rfl | (simp; done) | (simp [*]; done)), H', ⟨by have := HK1.out; have := HJ6.out; omega⟩, ⟨by repeat (first | (with_reducible first | exact HI301.out | apply IsS38.alloc | apply IsS38.drewN | apply IsS38.drew | apply IsS38.set_0 | refine IsS38.far ?_ NB301_303.out _) | exact HI301.out)⟩, ⟨by repeat (first | (with_reducible first | exact HB.out | apply below_alloc | apply pw_below_drewN | apply below_drew1 | refine below_set ?_ (IsS38.ge HI301.out) | refine below_set ?_ GE303.out) | exact HB.out)⟩⟩
         ·
          rw [if_neg c76] at H
          have c76b0 : (((rd_T40 l1 x8_1).f0) == 4) = false := beq_eq_false_iff_ne.mpr c76
          have c76b1 : (((rd_T40 l1 x8_1).f0) != 4) = true := bne_iff_ne.mpr c76
          by_cases c87 : x0_1 = x0_1
          rotate_left
          ·
           exact absurd rfl c87
          first | rw [if_pos c87] at H | rw [if_pos trivial] at H
          have c87b0 : (x0_1 == x0_1) = true := beq_iff_eq.mpr c87
          have c87b1 : (x0_1 != x0_1) = false := bne_eq_false_iff_eq.mpr c87
          clear c87
          by_cases c88 : x302000_1 = (Go.bits .or .u8 x7_1 0)
          rotate_left
          ·
           rw [if_neg c88] at H
           have c88b0 : (x302000_1 == (Go.bits .or .u8 x7_1 0)) = false := beq_eq_false_iff_ne.mpr c88
           have c88b1 : (x302000_1 != (Go.bits .or .u8 x7_1 0)) = true := bne_iff_ne.mpr c88
           rw [hLW] at H
           exact absurd H (by simp)
          rw [if_pos c88] at H
          have c88b0 : (x302000_1 == (Go.bits .or .u8 x7_1 0)) = true := beq_iff_eq.mpr c88
          have c88b1 : (x302000_1 != (Go.bits .or .u8 x7_1 0)) = false := bne_eq_false_iff_eq.mpr c88
          clear c88
          have H' := Aside0.mk H
          clear H
          have p302 : 0 ≤ (x8_1 : Int) := of_decide_eq_true (by first | (with_reducible assumption) | assumption)
          have q302 : x8_1 < (l1.length : Int) := of_decide_eq_true (by first | (with_reducible assumption) | assumption)
          obtain ⟨ad302, e302, hx302_0, hx302_1⟩ := at_T40 HR1.out x8_1 p302 q302
          cases e302
          replace hx302_0 := (HB.out.cell (World.block_lt_of_cell? w _ hx302_0)).trans hx302_0
          replace hx302_1 := (HB.out.cell (World.block_lt_of_cell? w _ hx302_1)).trans hx302_1
          replace p302 := eq_true p302
          replace q302 := eq_true q302
          go_wp2_with (first | ((with_reducible refine gate_dst (N := 9) rfl ?_); refine gbox (N := 9) (cs := #[.int .i64 0, .int .u64 0]) (t := 40) ?_; intro gb303 hg w89 hbox hb; refine ax7 (IsS38.below (by repeat (first | (with_reducible first | exact HI301.out | apply IsS38.alloc | apply IsS38.drewN | apply IsS38.drew | apply IsS38.set_0) | exact HI301.out)) hb) (below_step (by repeat (first | (with_reducible first | exact HB.out | apply below_alloc | apply pw_below_drewN | apply below_drew1 | refine below_set ?_ (IsS38.ge HI301.out)) | exact HB.out)) hb) hbox ((by rw [hg]; exact (below_size (by repeat (first | (with_reducible first | exact HB.out | apply below_alloc | apply pw_below_drewN | apply below_drew1 | refine below_set ?_ (IsS38.ge HI301.out)) | exact HB.out))) : w.heap.size ≤ gb303)) ((by rw [hg]; exact (below_size (by repeat (first | (with_reducible first | exact HB.out | apply below_alloc | apply pw_below_drewN | apply below_drew1 | refine below_set ?_ (IsS38.ge HI301.out)) | exact HB.out))) : w.heap.size ≤ gb303)) ((by rw [hg]; exact Nat.ne_of_lt (IsS38.lt (show IsS38 w _ gb301 x302000_1 from by repeat (first | (with_reducible first | exact HI301.out | apply IsS38.alloc | apply IsS38.drewN | apply IsS38.drew | apply IsS38.set_0) | exact HI301.out))) : gb301 ≠ gb303)) ((by rw [hg]; exact Nat.ne_of_gt (IsS38.lt (show IsS38 w _ gb301 x302000_1 from by repeat (first | (with_reducible first | exact HI301.out | apply IsS38.alloc | apply IsS38.drewN | apply IsS38.drew | apply IsS38.set_0) | exact HI301.out))) : gb303 ≠ gb301)) ?_; clear HI301; clear HB; intro HI301 HB BK303 GW303 GE303 NB301_303 NB303_301; clear hb hbox hg; have hnb90 := NB303_301.out; have hnc90 := NB301_303.out; have hcz91_0 := bc BK303 0 rfl; have hcz91_1 := bc BK303 1 rfl; have hfz91_0 := blk_frozen BK303.out 0; have hfz91_1 := blk_frozen BK303.out 1; obtain ⟨HGz92, hgz92⟩ := HI301.out; have hcz92_0 := cellS38_0 HGz92; have hfz92_0 := blk_frozen HGz92 0; clear HGz92 hgz92))
          go_roundg kj6
          case measure => have := HK1.out; have := HJ6.out; omega
          case rel => exact ⟨(x0_1), (Go.bits .or .u8 x7_1 0), (wrap64 (x8_1 + 1)), (x302000_1), (by first | rfl | (simp; done) | (simp [*]; done)), (by first | rfl | (simp; done) | (simp [*]; done)), (by first | rfl | (simp; done) | (simp [*]; done)), H', ⟨by have := HK1.out; have := HJ6.out; omega⟩, ⟨by repeat (first | (with_reducible first | exact HI301.out | apply IsS38.alloc | apply IsS38.drewN | apply IsS38.drew | apply IsS38.set_0 | refine IsS38.far ?_ NB301_303.out _) | exact HI301.out)⟩, ⟨by repeat (first | (with_reducible first | exact HB.out | apply below_alloc | apply pw_below_drewN | apply below_drew1 | refine below_set ?_ (IsS38.ge HI301.out) | refine below_set ?_ GE303.out) | exact HB.out)⟩⟩
end Go.Proofs.Ytfbnojelmdcnoaa.F
