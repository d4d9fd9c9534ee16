-- Written by a program of this seat's session (mkprint), out of the translation.
import Derived.Test.YtenegelkbfmjkaaShort
import Derived.Test.YtenegelkbfmjkaaFx0
import Derived.Test.YtenegelkbfmjkaaFx2
import Derived.Test.YtenegelkbfmjkaaFx4
namespace Go.Proofs.Ytenegelkbfmjkaa.F
open Go.RowKit Go.Proofs.YtenegelkbfmjkaaW.PrintWords Go.Proofs.YtenegelkbfmjkaaW.PrintLast Go.Proofs.YtenegelkbfmjkaaW.PrintMore
attribute [local go_sem] max2_int min2_int max_two min_two max_three min_three max_four min_four   -- for this text's walks alone
set_option linter.unusedVariables false
set_option linter.unusedSimpArgs false

/-! ### word_Neg: function 24 -/
def word_Neg.f (a0 : Int) : Option (Bool) := some ((a0 / 9223372036854775808) == 1)
set_option maxHeartbeats 8000000 in
set_option maxRecDepth 100000 in
theorem word_Neg.calls (a0 : Int) (r : Bool) (w : World) (h : word_Neg.f a0 = some r) :
  Calls Try.prog 24 #[.int .u64 a0] w fun e w' => e = .returned (.bool r) ∧ Drawn0 w w' := by
 have H : (some ((a0 / 9223372036854775808) == 1)) = some r := h
 clear h
 obtain rfl := Option.some.inj H
 go_enter Try.func24, Try.ntmps24
 go_wp2
 go_ret
 exact ⟨by first | rfl | (simp; done) | (simp [*]; done), by repeat (first | exact Drawn0.refl _ | apply Drawn0.step)⟩

/-! ### more_Scale: function 10 -/
def more_Scale.j0 : Nat → Int → Int → Bool → Option (Int × Int)
 | 0, _, _, _ => none
 | k + 1, x0, x1, x14 => if x14 = true then (some (x0, 0)) else ((word_Parts.f k x0).bind fun bt167 => ((word_Neg.f x0).bind fun t169 => ((round_Round.f k t169 0 bt167.1 (wrap64 (bt167.2 + (mx (-10000) (mn x1 10000)))) false).bind fun bt170 => (some (bt170.1, bt170.2)))))
def more_Scale.f (k : Nat) (a0 : Int) (a1 : Int) : Option (Int × Int) := (word_Kind.f k a0).bind fun t165 => (if t165 = 5 then ((word_Signals.f k a0).bind fun t166 => (if t166 = true then (some (9221120237041090560, 16)) else (some (9221120237041090560, 0)))) else (if t165 = 4 then (more_Scale.j0 k a0 a1 (t165 == 4)) else (more_Scale.j0 k a0 a1 (t165 == 1))))
theorem more_Scale.mono_l : ∀ k, (∀ y0 y1 y2, LeO (more_Scale.j0 k y0 y1 y2) (more_Scale.j0 (k + 1) y0 y1 y2))
 | 0 => fun _ _ _ r h => by simp [more_Scale.j0] at h
 | k + 1 => by
  have ih0 := more_Scale.mono_l k
  ·
   intro y0 y1 y2
   unfold more_Scale.j0
   repeat' with_reducible first | apply ih0 | apply round_Round.mono | apply word_Kind.mono | apply word_Parts.mono | apply word_Signals.mono | exact LeO.refl _ | exact LeO.none _ | refine LeO.ite ?_ ?_ | refine LeO.bind ?_ (fun _ => ?_)
theorem more_Scale.mono : ∀ a0 a1 k, LeO (more_Scale.f k a0 a1) (more_Scale.f (k + 1) a0 a1) := by
 intro a0 a1 k
 have ih0 := more_Scale.mono_l k
 unfold more_Scale.f
 repeat' with_reducible first | apply ih0 | apply round_Round.mono | apply word_Kind.mono | apply word_Parts.mono | apply word_Signals.mono | exact LeO.refl _ | exact LeO.none _ | refine LeO.ite ?_ ?_ | refine LeO.bind ?_ (fun _ => ?_)
set_option maxHeartbeats 8000000 in
set_option maxRecDepth 100000 in
theorem more_Scale.calls (k : Nat) (a0 : Int) (a1 : Int) (r1 : Int) (r2 : Int) (w : World) (h : more_Scale.f k a0 a1 = some (r1, r2)) :
  Calls Try.prog 10 #[.int .u64 a0, .int .i64 a1] w fun e w' => e = .returned (.tuple #[.int .u64 r1, .int .u8 r2]) ∧ Below w.heap.size w w' := by
 have hu54 := Try.underlying54
 have HB := Aside0.mk (Below.refl w.heap.size w)
 have H : ((word_Kind.f k a0).bind fun t165 => (if t165 = 5 then ((word_Signals.f k a0).bind fun t166 => (if t166 = true then (some (9221120237041090560, 16)) else (some (9221120237041090560, 0)))) else (if t165 = 4 then (more_Scale.j0 k a0 a1 (t165 == 4)) else (more_Scale.j0 k a0 a1 (t165 == 1))))) = some (r1, r2) := h
 clear h
 obtain ⟨t165, A30, H⟩ := Option.bind_eq_some_iff.mp H
 (try dsimp -simprocs only at H)
 have A3 := Aside0.mk A30
 clear A30
 by_cases c4 : t165 = 5
 ·
  rw [if_pos c4] at H
  have c4b0 : (t165 == 5) = true := beq_iff_eq.mpr c4
  have c4b1 : (t165 != 5) = false := bne_eq_false_iff_eq.mpr c4
  clear c4
  obtain ⟨t166, A50, H⟩ := Option.bind_eq_some_iff.mp H
  (try dsimp -simprocs only at H)
  have A5 := Aside0.mk A50
  clear A50
  by_cases c6 : t166 = true
  ·
   subst c6
   rw [if_pos rfl] at H
   simp only [Option.some.injEq, Prod.mk.injEq] at H
   obtain ⟨rfl, rfl⟩ := H
   go_enter Try.func10, Try.ntmps10
   go_wp2_with (first | ((with_reducible refine gate_callee (f := 20) rfl ?_); refine goesL_ (some 9) rfl rfl Try.func20 (by kernel_rfl) rfl #[.int .u64 a0] rfl ga ?_; (with_reducible refine (word_Kind.calls k a0 t165 _ A3.out).mono ?_); rintro e w' ⟨rfl, ⟨nd, rfl⟩⟩; refine ⟨_, rfl, ?_⟩) | ((with_reducible refine gate_callee (f := 21) rfl ?_); refine goesL_ (some 13) rfl rfl Try.func21 (by kernel_rfl) rfl #[.int .u64 a0] rfl ga ?_; (with_reducible refine (word_Signals.calls k a0 true _ A5.out).mono ?_); rintro e w' ⟨rfl, ⟨nd, rfl⟩⟩; refine ⟨_, rfl, ?_⟩))
   go_ret2
   exact ⟨er, bel⟩
  ·
   replace c6 := Bool.eq_false_iff.mpr c6
   subst c6
   rw [if_neg (show ¬ (false = true) by decide)] at H
   simp only [Option.some.injEq, Prod.mk.injEq] at H
   obtain ⟨rfl, rfl⟩ := H
   go_enter Try.func10, Try.ntmps10
   go_wp2_with (first | ((with_reducible refine gate_callee (f := 20) rfl ?_); refine goesL_ (some 9) rfl rfl Try.func20 (by kernel_rfl) rfl #[.int .u64 a0] rfl ga ?_; (with_reducible refine (word_Kind.calls k a0 t165 _ A3.out).mono ?_); rintro e w' ⟨rfl, ⟨nd, rfl⟩⟩; refine ⟨_, rfl, ?_⟩) | ((with_reducible refine gate_callee (f := 21) rfl ?_); refine goesL_ (some 13) rfl rfl Try.func21 (by kernel_rfl) rfl #[.int .u64 a0] rfl ga ?_; (with_reducible refine (word_Signals.calls k a0 false _ A5.out).mono ?_); rintro e w' ⟨rfl, ⟨nd, rfl⟩⟩; refine ⟨_, rfl, ?_⟩))
   go_ret2
   exact ⟨er, bel⟩
 ·
  rw [if_neg c4] at H
  have c4b0 : (t165 == 5) = false := beq_eq_false_iff_ne.mpr c4
  have c4b1 : (t165 != 5) = true := bne_iff_ne.mpr c4
  have HC7 := Aside0.mk H
  clear H
  go_enter Try.func10, Try.ntmps10
  go_upto_if 14 with (first | ((with_reducible refine gate_callee (f := 20) rfl ?_); refine goesL_ (some 9) rfl rfl Try.func20 (by kernel_rfl) rfl #[.int .u64 a0] rfl ga ?_; (with_reducible refine (word_Kind.calls k a0 t165 _ A3.out).mono ?_); rintro e w' ⟨rfl, ⟨nd, rfl⟩⟩; refine ⟨_, rfl, ?_⟩))
  (try simp only [Act.put, sa0, sa1, sa2])
  go_cut [14] (fun v14 wc => ∃ (kq : Nat) (x14_6 : Bool), v14 = .bool x14_6 ∧ Aside0 (more_Scale.j0 kq a0 a1 x14_6 = some (r1, r2)) ∧ Aside0 (kq ≤ k) ∧ Aside0 (Below w.heap.size w wc))
  case first =>
   have H := HC7.out
   clear HC7
   by_cases c8 : t165 = 4
   rotate_left
   ·
    rw [if_neg c8] at H
    have c8b0 : (t165 == 4) = false := beq_eq_false_iff_ne.mpr c8
    have c8b1 : (t165 != 4) = true := bne_iff_ne.mpr c8
    (first | rw [c8b0] | (simp only [i64_w, i32_w]; rw [c8b0]) | skip)
    have H' := Aside0.mk H
    clear H
    go_wp2
    go_meet
    case rel => exact ⟨_, ((t165 == 1)), (by first | rfl | (simp; done) | (simp [*]; done)), H', ⟨by first | omega | exact Nat.le_refl _⟩, ⟨bel⟩⟩
   rw [if_pos c8] at H
   have c8b0 : (t165 == 4) = true := beq_iff_eq.mpr c8
   have c8b1 : (t165 != 4) = false := bne_eq_false_iff_eq.mpr c8
   clear c8
   (first | rw [c8b0] | (simp only [i64_w, i32_w]; rw [c8b0]) | skip)
   have H' := Aside0.mk H
   clear H
   go_wp2
   go_meet
   case rel => exact ⟨_, ((t165 == 4)), (by first | rfl | (simp; done) | (simp [*]; done)), H', ⟨by first | omega | exact Nat.le_refl _⟩, ⟨bel⟩⟩
  case rest =>
   clear HC7
   try clear c1
   try clear c2
   try clear p2
   try clear c4
   try clear c4b0
   try clear c4b1
   try clear c6
   try clear c8
   try clear c8b0
   try clear c8b1
   obtain ⟨kq, x14_6, rfl, HA, HJ6, HB⟩ := hcut
   cases kq with
   | zero => exact absurd HA.out (by simp [more_Scale.j0])
   | succ kj6 =>
    have H := HA.out
    clear HA
    simp only [more_Scale.j0] at H
    by_cases c9 : x14_6 = true
    ·
     subst c9
     rw [if_pos rfl] at H
     simp only [Option.some.injEq, Prod.mk.injEq] at H
     obtain ⟨rfl, rfl⟩ := H
     go_wp2
     go_ret2
     exact ⟨er, bel⟩
    ·
     replace c9 := Bool.eq_false_iff.mpr c9
     subst c9
     rw [if_neg (show ¬ (false = true) by decide)] at H
     obtain ⟨⟨t167, t168⟩, A100, H⟩ := Option.bind_eq_some_iff.mp H
     (try dsimp -simprocs only at H)
     have A10 := Aside0.mk A100
     clear A100
     obtain ⟨t169, A110, H⟩ := Option.bind_eq_some_iff.mp H
     (try dsimp -simprocs only at H)
     have A11 := Aside0.mk A110
     clear A110
     obtain ⟨ji12, hji12⟩ : ∃ j_ : Int, (mn a1 10000) = j_ := ⟨_, rfl⟩
     replace H : ((round_Round.f kj6 t169 0 t167 (wrap64 (t168 + (mx (-10000) (ji12)))) false).bind fun bt170 => (some (bt170.1, bt170.2))) = some (r1, r2) := by first | (rw [hji12] at H; exact H) | (simp only [hji12] at H ⊢; exact H)
     (try rw [hji12] at A10)
     (try rw [hji12] at A11)
     have hji12_ : (if 10000 < a1 then 10000 else a1) = ji12 := hji12
     obtain ⟨ji13, hji13⟩ : ∃ j_ : Int, (mx (-10000) (ji12)) = j_ := ⟨_, rfl⟩
     replace H : ((round_Round.f kj6 t169 0 t167 (wrap64 (t168 + (ji13))) false).bind fun bt170 => (some (bt170.1, bt170.2))) = some (r1, r2) := by first | (rw [hji13] at H; exact H) | (simp only [hji13] at H ⊢; exact H)
     (try rw [hji13] at A10)
     (try rw [hji13] at A11)
     have hji13_ : (if (-10000) < (ji12) then (ji12) else (-10000)) = ji13 := hji13
     obtain ⟨⟨t170, t171⟩, A140, H⟩ := Option.bind_eq_some_iff.mp H
     (try dsimp -simprocs only at H)
     have A14 := Aside0.mk A140
     clear A140
     simp only [Option.some.injEq, Prod.mk.injEq] at H
     obtain ⟨rfl, rfl⟩ := H
     go_wp2_with (first | ((with_reducible refine gate_callee (f := 22) rfl ?_); refine goesL_ (some 20) rfl rfl Try.func22 (by kernel_rfl) rfl #[.int .u64 a0] rfl ga ?_; (with_reducible refine (word_Parts.calls kj6 a0 t167 t168 _ A10.out).mono ?_); rintro e w' ⟨rfl, ⟨nd, rfl⟩⟩; refine ⟨_, rfl, ?_⟩) | ((with_reducible refine gate_callee (f := 24) rfl ?_); refine goesL_ (some 24) rfl rfl Try.func24 (by kernel_rfl) rfl #[.int .u64 a0] rfl ga ?_; (with_reducible refine (word_Neg.calls a0 t169 _ A11.out).mono ?_); rintro e w' ⟨rfl, ⟨nd, rfl⟩⟩; refine ⟨_, rfl, ?_⟩) | ((with_reducible refine gate_callee (f := 23) rfl ?_); refine goesL_ (some 32) rfl rfl Try.func23 (by kernel_rfl) rfl #[.bool t169, .agg #[.int .u64 0, .int .u64 t167], .int .i64 (wrap64 (t168 + (ji13))), .bool false] rfl (by (try simp only [List.map_toArray, List.map_cons, List.map_nil]); first | done | (simp only [hji13]; rfl) | rfl | (simp only [List.length_drop, List.length_take]; rfl)) ?_; (with_reducible refine (round_Round.calls kj6 t169 0 t167 (wrap64 (t168 + (ji13))) false t170 t171 _ A14.out).mono ?_); rintro e w15 ⟨rfl, hb⟩; refine ⟨_, rfl, ?_⟩; refine ax1 (below_step bel hb) ?_; clear HB; intro HB; (try clear hb)))
     go_ret2
     exact ⟨by first | rfl | (simp [errW_none, errW_some] <;> rfl) | (simp only [← hji12, ← hji13]; first | rfl | (simp [errW_none, errW_some] <;> rfl)) | (simp [*, errW_none, errW_some] <;> rfl), bel⟩

/-! ### mat_Matrix_Clone: function 15 -/
mutual
def mat_Matrix_Clone.l0 : Nat → Int → Int → Int → Int → Int → List Int → Int → Int → Int → List Int → Option (Int × Int × Int × List Int)
 | 0, _, _, _, _, _, _, _, _, _, _ => none
 | k + 1, x12, x13, x173000, x173001, x173002, x173003, x181000, x181001, x181002, x181003 => if x13 < x12 then (mat_Matrix_Clone.l1 k x13 x12 x13 x181001 0 x173000 x173001 x173002 x173003 x181000 x181001 x181002 x181003) else (some (x181000, x181001, x181002, x181003))
def mat_Matrix_Clone.l1 : Nat → Int → Int → Int → Int → Int → Int → Int → Int → List Int → Int → Int → Int → List Int → Option (Int × Int × Int × List Int)
 | 0, _, _, _, _, _, _, _, _, _, _, _, _, _ => none
 | k + 1, x4, x12, x13, x17, x18, x173000, x173001, x173002, x173003, x181000, x181001, x181002, x181003 => if x18 < x17 then ((mat_Matrix_At.f x173000 x173001 x173002 x173003 x4 x18).bind fun t181 => ((mat_Matrix_Set.f x181000 x181001 x181002 x181003 x4 x18 t181).bind fun t182 => (mat_Matrix_Clone.l1 k x4 x12 x13 x17 (wrap64 (x18 + 1)) x173000 x173001 x173002 x173003 x181000 x181001 x181002 t182))) else (mat_Matrix_Clone.l0 k x12 (wrap64 (x13 + 1)) x173000 x173001 x173002 x173003 x181000 x181001 x181002 x181003)
end
def mat_Matrix_Clone.f (k : Nat) (a0_0 : Int) (a0_1 : Int) (a0_2 : Int) (l0_3 : List Int) : Option (Int × Int × Int × List Int) := (mat_New.f a0_0 a0_1).bind fun bt174 => (mat_Matrix_Clone.l0 k bt174.1 0 a0_0 a0_1 a0_2 l0_3 bt174.1 bt174.2.1 bt174.2.2.1 bt174.2.2.2)
theorem mat_Matrix_Clone.mono_l : ∀ k, (∀ y0 y1 y2 y3 y4 y5 y6 y7 y8 y9, LeO (mat_Matrix_Clone.l0 k y0 y1 y2 y3 y4 y5 y6 y7 y8 y9) (mat_Matrix_Clone.l0 (k + 1) y0 y1 y2 y3 y4 y5 y6 y7 y8 y9)) ∧ (∀ y0 y1 y2 y3 y4 y5 y6 y7 y8 y9 y10 y11 y12, LeO (mat_Matrix_Clone.l1 k y0 y1 y2 y3 y4 y5 y6 y7 y8 y9 y10 y11 y12) (mat_Matrix_Clone.l1 (k + 1) y0 y1 y2 y3 y4 y5 y6 y7 y8 y9 y10 y11 y12))
 | 0 => ⟨fun _ _ _ _ _ _ _ _ _ _ r h => by simp [mat_Matrix_Clone.l0] at h, fun _ _ _ _ _ _ _ _ _ _ _ _ _ r h => by simp [mat_Matrix_Clone.l1] at h⟩
 | k + 1 => by
  obtain ⟨ih0, ih1⟩ := mat_Matrix_Clone.mono_l k
  refine ⟨?_, ?_⟩ <;> intros <;> (first | unfold mat_Matrix_Clone.l0 | unfold mat_Matrix_Clone.l1) <;>
   repeat' with_reducible first | apply ih0 | apply ih1 | exact LeO.refl _ | exact LeO.none _ | refine LeO.ite ?_ ?_ | refine LeO.bind ?_ (fun _ => ?_)
theorem mat_Matrix_Clone.mono : ∀ a0 a1 a2 a3 k, LeO (mat_Matrix_Clone.f k a0 a1 a2 a3) (mat_Matrix_Clone.f (k + 1) a0 a1 a2 a3) := by
 intro a0 a1 a2 a3 k
 obtain ⟨ih0, ih1⟩ := mat_Matrix_Clone.mono_l k
 unfold mat_Matrix_Clone.f
 repeat' with_reducible first | apply ih0 | apply ih1 | exact LeO.refl _ | exact LeO.none _ | refine LeO.ite ?_ ?_ | refine LeO.bind ?_ (fun _ => ?_)
def mat_Matrix_Clone.T8 : Bool × List (List Nat × List Nat) := (true, [([], []), ([], []), ([], []), ([], []), ([], []), ([], []), ([3, 4, 5], [3, 4, 5]), ([0, 1, 2, 6, 6], [0, 1, 2, 6])])
def mat_Matrix_Clone.B8 : List Nat := [0, 0, 0, 0, 0, 0, 56, 127]
theorem mat_Matrix_Clone.tab8 : rtab .any (opsOf Try.f15 8) = mat_Matrix_Clone.T8 := by kernel_rfl
theorem mat_Matrix_Clone.bits8 : waitsOk mat_Matrix_Clone.T8.2 mat_Matrix_Clone.B8 = true := by kernel_rfl
set_option maxHeartbeats 8000000 in
set_option maxRecDepth 100000 in
theorem mat_Matrix_Clone.calls (k : Nat) (a0_0 : Int) (a0_1 : Int) (a0_2 : Int) (A0_3 : Option Addr) (c0_3 : Nat) (l0_3 : List Int) (r1 : Int) (r2 : Int) (r3 : Int) (r4 : List Int) (w : World) (hr0_3 : Kd.C (Kd.int .u64) w A0_3 l0_3.length l0_3) (hc0_3 : l0_3.length ≤ c0_3) (h : mat_Matrix_Clone.f k a0_0 a0_1 a0_2 l0_3 = some (r1, r2, r3, r4)) :
  Calls Try.prog 15 #[.agg #[.int .i64 a0_0, .int .i64 a0_1, .int .i64 a0_2, .slice A0_3 l0_3.length c0_3]] w fun e w' => ∃ v3_ : Value, e = .returned (.agg #[.int .i64 r1, .int .i64 r2, .int .i64 r3, v3_]) ∧ Kd.R (Kd.int .u64) 30 w' w.heap.size (fun _ => True) v3_ r4 ∧ Below w.heap.size w w' := by
 have hu25 := Try.underlying25
 have HR0_3 := Aside0.mk hr0_3
 have HC0_3 := Aside0.mk hc0_3
 clear hr0_3 hc0_3
 have HB := Aside0.mk (Below.refl w.heap.size w)
 have H : ((mat_New.f a0_0 a0_1).bind fun bt174 => (mat_Matrix_Clone.l0 k bt174.1 0 a0_0 a0_1 a0_2 l0_3 bt174.1 bt174.2.1 bt174.2.2.1 bt174.2.2.2)) = some (r1, r2, r3, r4) := h
 clear h
 obtain ⟨⟨t174, t175, t176, t177⟩, A20, H⟩ := Option.bind_eq_some_iff.mp H
 (try dsimp -simprocs only at H)
 have A2 := Aside0.mk A20
 clear A20
 have H' := Aside0.mk H
 clear H
 go_enter Try.func15, Try.ntmps15
 go_wp2_with (first | ((with_reducible refine gate_dst (N := 1) rfl ?_); refine gbox (N := 1) (cs := #[.int .i64 a0_0, .int .i64 a0_1, .int .i64 a0_2, .slice A0_3 l0_3.length c0_3]) (t := 25) ?_; intro gb172 hg w3 hbox hb; refine ax4 (below_step bel hb) hbox ((ge hg : w.heap.size ≤ gb172)) ((ge hg : w.heap.size ≤ gb172)) ?_; clear HB; intro HB BK172 GW172 GE172; clear hb hbox hg) | ((with_reducible refine gate_dst (N := 2) rfl ?_); refine gbox (N := 2) (cs := #[.int .i64 0, .int .i64 0, .int .i64 0, .slice none 0 0]) (t := 25) ?_; intro gb173 hg w4 hbox hb; refine ax7 (bb BK172 hb) (below_step bes hb) hbox ((ge hg : w.heap.size ≤ gb173)) ((ge hg : w.heap.size ≤ gb173)) (nl hg BK172) (ng hg BK172) ?_; clear BK172; clear HB; intro BK172 HB BK173 GW173 GE173 NB172_173 NB173_172; clear hb hbox hg; have hnb5 := NB172_173.out; have hnc5 := NB173_172.out; have hcz6_0 := bc BK172 0 rfl; have hcz6_1 := bc BK172 1 rfl; have hcz6_2 := bc BK172 2 rfl; have hcz6_3 := bc BK172 3 rfl; have hfz6_0 := blk_frozen BK172.out 0; have hfz6_1 := blk_frozen BK172.out 1; have hfz6_2 := blk_frozen BK172.out 2; have hfz6_3 := blk_frozen BK172.out 3) | ((with_reducible refine gate_callee (f := 18) rfl ?_); refine goesL_ (some 10) rfl rfl Try.func18 (by kernel_rfl) rfl #[.int .i64 a0_0, .int .i64 a0_1] rfl ga ?_; (with_reducible refine (mat_New.calls a0_0 a0_1 t174 t175 t176 t177 _ A2.out).mono ?_); rintro e w7 ⟨v178, rfl, ho0, hb⟩; refine ⟨_, rfl, ?_⟩; refine ax4 (Kd.R_lower ho0 (below_size bes)) (bb BK172 hb) (bb BK173 hb) (below_step bes hb) ?_; clear BK172; clear BK173; clear HB; intro HO179 BK172 BK173 HB; (try clear hb); (try clear ho0)) | ((with_reducible refine gate_dst (N := 3) rfl ?_); refine gbox (N := 3) (cs := #[.int .i64 0, .int .i64 0, .int .i64 0, .slice none 0 0]) (t := 25) ?_; intro gb180 hg w8 hbox hb; refine ax11 (Kd.R_below (kr HO179) hb) (bb BK172 hb) (bb BK173 hb) (below_step bes hb) hbox ((ge hg : w.heap.size ≤ gb180)) ((ge hg : w.heap.size ≤ gb180)) (nl hg BK172) (ng hg BK172) (nl hg BK173) (ng hg BK173) ?_; clear HO179; clear BK172; clear BK173; clear HB; intro HO179 BK172 BK173 HB BK180 GW180 GE180 NB172_180 NB180_172 NB173_180 NB180_173; clear hb hbox hg; have hnb9 := NB180_172.out; have hnc9 := NB172_180.out; have hnb10 := NB180_173.out; have hnc10 := NB173_180.out; have hcz11_0 := bc BK180 0 rfl; have hcz11_1 := bc BK180 1 rfl; have hcz11_2 := bc BK180 2 rfl; have hcz11_3 := bc BK180 3 rfl; have hfz11_0 := blk_frozen BK180.out 0; have hfz11_1 := blk_frozen BK180.out 1; have hfz11_2 := blk_frozen BK180.out 2; have hfz11_3 := blk_frozen BK180.out 3; obtain ⟨Ao12, co12, eo12⟩ := Kd.R_slice HO179.out; subst eo12))
 go_loopg [13] k (fun kq v13 w' => ∃ (x13_1 : Int) (x181003_1 : List Int) (u181003 : Value), v13 = .int .i64 x13_1 ∧ Aside0 (mat_Matrix_Clone.l0 kq t174 x13_1 a0_0 a0_1 a0_2 l0_3 t174 t175 t176 x181003_1 = some (r1, r2, r3, r4)) ∧ Aside0 (kq ≤ k) ∧ Aside0 (Kd.R (Kd.int .u64) 30 w' w.heap.size (fun _ => True) u181003 x181003_1) ∧ Aside0 (w'.heap[gb172]? = some (.cells #[.int .i64 a0_0, .int .i64 a0_1, .int .i64 a0_2, (.slice A0_3 l0_3.length c0_3)] 25 (0, 0))) ∧ Aside0 (w'.heap[gb173]? = some (.cells #[.int .i64 0, .int .i64 0, .int .i64 0, (.slice none 0 0)] 25 (0, 0))) ∧ Aside0 (w'.heap[gb180]? = some (.cells #[.int .i64 t174, .int .i64 t175, .int .i64 t176, u181003] 25 (0, 0))) ∧ Aside0 (Below w.heap.size w w'))
 case atStart => exact ⟨(0), (t177), (.slice Ao12 t177.length co12), (by first | rfl | (simp; done) | (simp [*]; done)), H', ⟨Nat.le_refl _⟩, ⟨by (with_reducible repeat (first | apply Kd.R_alloc | apply Kd.R_drewN | apply Kd.R_drew)); exact Kd.R_mono (Kd.R_far (p := ⟨gb180, 3, none⟩) (Kd.R_far (p := ⟨gb180, 2, none⟩) (Kd.R_far (p := ⟨gb180, 1, none⟩) (Kd.R_far (p := ⟨gb180, 0, none⟩) (Kd.R_types HO179.out BK180.out (by decide)) (fun _ hk => hk.2) (.int .i64 t174)) (fun _ hk => hk.2) (.int .i64 t175)) (fun _ hk => hk.2) (.int .i64 t176)) (fun _ hk => hk.2) (.slice Ao12 t177.length co12)) (fun _ hk => trivial)⟩, ⟨by (with_reducible repeat (first | refine blk_drewN ?_ _ | refine blk_drew ?_ | refine blk_alloc ?_ _)); refine blk_far ?_ NB172_180.out _; (with_reducible repeat (first | refine blk_drewN ?_ _ | refine blk_drew ?_ | refine blk_alloc ?_ _)); refine blk_far ?_ NB172_180.out _; (with_reducible repeat (first | refine blk_drewN ?_ _ | refine blk_drew ?_ | refine blk_alloc ?_ _)); refine blk_far ?_ NB172_180.out _; (with_reducible repeat (first | refine blk_drewN ?_ _ | refine blk_drew ?_ | refine blk_alloc ?_ _)); refine blk_far ?_ NB172_180.out _; (with_reducible repeat (first | refine blk_drewN ?_ _ | refine blk_drew ?_ | refine blk_alloc ?_ _)); exact BK172.out⟩, ⟨by (with_reducible repeat (first | refine blk_drewN ?_ _ | refine blk_drew ?_ | refine blk_alloc ?_ _)); refine blk_far ?_ NB173_180.out _; (with_reducible repeat (first | refine blk_drewN ?_ _ | refine blk_drew ?_ | refine blk_alloc ?_ _)); refine blk_far ?_ NB173_180.out _; (with_reducible repeat (first | refine blk_drewN ?_ _ | refine blk_drew ?_ | refine blk_alloc ?_ _)); refine blk_far ?_ NB173_180.out _; (with_reducible repeat (first | refine blk_drewN ?_ _ | refine blk_drew ?_ | refine blk_alloc ?_ _)); refine blk_far ?_ NB173_180.out _; (with_reducible repeat (first | refine blk_drewN ?_ _ | refine blk_drew ?_ | refine blk_alloc ?_ _)); exact BK173.out⟩, ⟨by (with_reducible repeat (first | refine blk_drewN ?_ _ | refine blk_drew ?_ | refine blk_alloc ?_ _)); refine blk_put (cs := #[.int .i64 t174, .int .i64 t175, .int .i64 t176, .slice none 0 0]) ?_ 3 _ rfl; (with_reducible repeat (first | refine blk_drewN ?_ _ | refine blk_drew ?_ | refine blk_alloc ?_ _)); refine blk_put (cs := #[.int .i64 t174, .int .i64 t175, .int .i64 0, .slice none 0 0]) ?_ 2 _ rfl; (with_reducible repeat (first | refine blk_drewN ?_ _ | refine blk_drew ?_ | refine blk_alloc ?_ _)); refine blk_put (cs := #[.int .i64 t174, .int .i64 0, .int .i64 0, .slice none 0 0]) ?_ 1 _ rfl; (with_reducible repeat (first | refine blk_drewN ?_ _ | refine blk_drew ?_ | refine blk_alloc ?_ _)); refine blk_put (cs := #[.int .i64 0, .int .i64 0, .int .i64 0, .slice none 0 0]) ?_ 0 _ rfl; (with_reducible repeat (first | refine blk_drewN ?_ _ | refine blk_drew ?_ | refine blk_alloc ?_ _)); exact BK180.out⟩, ⟨bes⟩⟩
 case round =>
  clear H'
  try clear c1
  try clear p2
  try clear c5
  try clear c9
  try clear c10
  try clear hcz11_0
  try clear hcz11_1
  try clear hcz11_2
  try clear hcz11_3
  try clear hcz6_0
  try clear hcz6_1
  try clear hcz6_2
  try clear hcz6_3
  try clear hfz11_0
  try clear hfz11_1
  try clear hfz11_2
  try clear hfz11_3
  try clear hfz6_0
  try clear hfz6_1
  try clear hfz6_2
  try clear hfz6_3
  obtain ⟨x13_1, x181003_1, u181003, rfl, HA, HK1, HO_181003, BK172, BK173, BK180, HB⟩ := hrel
  cases gk with
  | zero => exact absurd HA.out (by simp [mat_Matrix_Clone.l0])
  | succ k1 =>
   have H := HA.out
   clear HA
   simp only [mat_Matrix_Clone.l0] at H
   by_cases c13 : x13_1 < t174
   ·
    rw [if_pos c13] at H
    have c13b0 : decide (x13_1 < t174) = true := decide_eq_true c13
    clear c13
    have H' := Aside0.mk H
    clear H
    have hnb14 := NB180_172.out
    have hnc14 := NB172_180.out
    have hnb15 := NB180_173.out
    have hnc15 := NB173_180.out
    have hcz16_0 := bc BK180 0 rfl
    have hcz16_1 := bc BK180 1 rfl
    have hcz16_2 := bc BK180 2 rfl
    have hcz16_3 := bc BK180 3 rfl
    have hfz16_0 := blk_frozen BK180.out 0
    have hfz16_1 := blk_frozen BK180.out 1
    have hfz16_2 := blk_frozen BK180.out 2
    have hfz16_3 := blk_frozen BK180.out 3
    go_wp2
    go_loopg [18] k1 (fun kq v18 w' => ∃ (x18_2 : Int) (x181003_2 : List Int) (u181003 : Value), v18 = .int .i64 x18_2 ∧ Aside0 (mat_Matrix_Clone.l1 kq x13_1 t174 x13_1 t175 x18_2 a0_0 a0_1 a0_2 l0_3 t174 t175 t176 x181003_2 = some (r1, r2, r3, r4)) ∧ Aside0 (kq ≤ k1) ∧ Aside0 (Kd.R (Kd.int .u64) 30 w' w.heap.size (fun _ => True) u181003 x181003_2) ∧ Aside0 (w'.heap[gb172]? = some (.cells #[.int .i64 a0_0, .int .i64 a0_1, .int .i64 a0_2, (.slice A0_3 l0_3.length c0_3)] 25 (0, 0))) ∧ Aside0 (w'.heap[gb173]? = some (.cells #[.int .i64 0, .int .i64 0, .int .i64 0, (.slice none 0 0)] 25 (0, 0))) ∧ Aside0 (w'.heap[gb180]? = some (.cells #[.int .i64 t174, .int .i64 t175, .int .i64 t176, u181003] 25 (0, 0))) ∧ Aside0 (Below w.heap.size w w'))
    case atStart => exact ⟨(0), (x181003_1), (u181003), (by first | rfl | (simp; done) | (simp [*]; done)), H', ⟨Nat.le_refl _⟩, ⟨kr HO_181003⟩, ⟨kb BK172⟩, ⟨kb BK173⟩, ⟨kb BK180⟩, ⟨bes⟩⟩
    case round =>
     clear H'
     try clear c1
     try clear p2
     try clear c5
     try clear c9
     try clear c10
     try clear c13
     try clear c13b0
     try clear c14
     try clear c15
     try clear hcz11_0
     try clear hcz11_1
     try clear hcz11_2
     try clear hcz11_3
     try clear hcz16_0
     try clear hcz16_1
     try clear hcz16_2
     try clear hcz16_3
     try clear hcz6_0
     try clear hcz6_1
     try clear hcz6_2
     try clear hcz6_3
     try clear hfz11_0
     try clear hfz11_1
     try clear hfz11_2
     try clear hfz11_3
     try clear hfz16_0
     try clear hfz16_1
     try clear hfz16_2
     try clear hfz16_3
     try clear hfz6_0
     try clear hfz6_1
     try clear hfz6_2
     try clear hfz6_3
     try clear p2
     obtain ⟨x18_2, x181003_2, u181003, rfl, HA, HK2, HO_181003, BK172, BK173, BK180, HB⟩ := hrel
     cases gk with
     | zero => exact absurd HA.out (by simp [mat_Matrix_Clone.l1])
     | succ k2 =>
      have H := HA.out
      clear HA
      simp only [mat_Matrix_Clone.l1] at H
      by_cases c17 : x18_2 < t175
      rotate_left
      ·
       rw [if_neg c17] at H
       have c17b0 : decide (x18_2 < t175) = false := decide_eq_false c17
       clear c17
       have H' := Aside0.mk H
       clear H
       go_wp2
       go_roundg k2
       case measure => have := HK1.out; have := HK2.out; omega
       case rel => exact ⟨(wrap64 (x13_1 + 1)), (x181003_2), (u181003), (by first | rfl | (simp; done) | (simp [*]; done)), H', ⟨by have := HK1.out; have := HK2.out; omega⟩, ⟨kr HO_181003⟩, ⟨kb BK172⟩, ⟨kb BK173⟩, ⟨kb BK180⟩, ⟨bes⟩⟩
      rw [if_pos c17] at H
      have c17b0 : decide (x18_2 < t175) = true := decide_eq_true c17
      clear c17
      obtain ⟨t181, A180, H⟩ := Option.bind_eq_some_iff.mp H
      (try dsimp -simprocs only at H)
      have A18 := Aside0.mk A180
      clear A180
      obtain ⟨t182, A190, H⟩ := Option.bind_eq_some_iff.mp H
      (try dsimp -simprocs only at H)
      have A19 := Aside0.mk A190
      clear A190
      have H' := Aside0.mk H
      clear H
      try go_wp2
      refine ax5 (Kd.R_drew HO_181003.out) (blk_drew BK172.out) (blk_drew BK173.out) (blk_drew BK180.out) (below_drew1 HB.out) ?_
      clear HO_181003 BK172 BK173 BK180 HB
      intro HO_181003 BK172 BK173 BK180 HB
      refine start_ (n := 8) (S := fun w' => w'.cell? ⟨gb180, 0, none⟩ = some (.int .i64 t174) ∧ w'.cell? ⟨gb180, 1, none⟩ = some (.int .i64 t175) ∧ w'.cell? ⟨gb180, 2, none⟩ = some (.int .i64 t176) ∧ w'.cell? ⟨gb180, 3, none⟩ = some (u181003) ∧ w'.cell? ⟨gb172, 0, none⟩ = some (.int .i64 a0_0) ∧ w'.cell? ⟨gb172, 1, none⟩ = some (.int .i64 a0_1) ∧ w'.cell? ⟨gb172, 2, none⟩ = some (.int .i64 a0_2) ∧ w'.cell? ⟨gb172, 3, none⟩ = some (.slice A0_3 l0_3.length c0_3)) (ds := []) #[false, false, false, false, false, false, false, false] (by kernel_rfl) rfl rfl ⟨(blk_cell BK180.out 0).trans rfl, (blk_cell BK180.out 1).trans rfl, (blk_cell BK180.out 2).trans rfl, (blk_cell BK180.out 3).trans rfl, (blk_cell BK172.out 0).trans rfl, (blk_cell BK172.out 1).trans rfl, (blk_cell BK172.out 2).trans rfl, (blk_cell BK172.out 3).trans rfl⟩ (fun hHeld => ?_); refine with_tabW mat_Matrix_Clone.tab8 mat_Matrix_Clone.bits8 (fun HT_ HW_ => ?_)
      generalize wr.drew = w20 at HO_181003 BK172 BK173 BK180 HB hHeld ⊢
      refine pure_ (i := 1) (N := some 22) (v := ?_) (a' := ?_) #[false, true, false, false, false, false, false, false] rfl rfl (any_of HT_.out (by kernel_rfl)) (fun _ _ _ h => h) (Or.inl ⟨by rfl, ?_⟩) ?_ ?_
      rotate_left
      ·
       intro w'
       go_simp
       with_reducible rfl
      rotate_left
      ·
       simp only [Act.put, sa0, sa1, sa2, i64_w, i32_w]
       rfl
      refine pure_ (i := 2) (N := some 23) (v := ?_) (a' := ?_) #[false, true, true, false, false, false, false, false] rfl rfl (any_of HT_.out (by kernel_rfl)) (fun _ _ _ h => h) (Or.inl ⟨by rfl, ?_⟩) ?_ ?_
      rotate_left
      ·
       intro w'
       go_simp
       with_reducible rfl
      rotate_left
      ·
       simp only [Act.put, sa0, sa1, sa2, i64_w, i32_w]
       rfl
      refine pure_ (i := 4) (N := some 25) (v := ?_) (a' := ?_) #[false, true, true, false, true, false, false, false] rfl rfl (any_of HT_.out (by kernel_rfl)) (fun _ _ _ h => h) (Or.inl ⟨by rfl, ?_⟩) ?_ ?_
      rotate_left
      ·
       intro w'
       go_simp
       with_reducible rfl
      rotate_left
      ·
       simp only [Act.put, sa0, sa1, sa2, i64_w, i32_w]
       rfl
      refine pure_ (i := 5) (N := some 26) (v := ?_) (a' := ?_) #[false, true, true, false, true, true, false, false] rfl rfl (any_of HT_.out (by kernel_rfl)) (fun _ _ _ h => h) (Or.inl ⟨by rfl, ?_⟩) ?_ ?_
      rotate_left
      ·
       intro w'
       go_simp
       with_reducible rfl
      rotate_left
      ·
       simp only [Act.put, sa0, sa1, sa2, i64_w, i32_w]
       rfl
      refine take_ (i := 0) (N := some 21) (v := ?_) (a' := ?_) #[true, true, true, false, true, true, false, false] rfl rfl (take_ofW HT_.out HW_.out (by kernel_rfl)) (fun _ _ _ h => h) (Or.inl ⟨by rfl, ?_⟩) hHeld ?_ ?_
      rotate_left
      ·
       rintro w' ⟨s0, s1, s2, s3, s4, s5, s6, s7⟩
       go_simp
       with_reducible rfl
      rotate_left
      ·
       simp only [Act.put, sa0, sa1, sa2, i64_w, i32_w]
       rfl
      refine take_ (i := 3) (N := some 24) (v := ?_) (a' := ?_) #[true, true, true, true, true, true, false, false] rfl rfl (take_ofW HT_.out HW_.out (by kernel_rfl)) (fun _ _ _ h => h) (Or.inl ⟨by rfl, ?_⟩) hHeld ?_ ?_
      rotate_left
      ·
       rintro w' ⟨s0, s1, s2, s3, s4, s5, s6, s7⟩
       go_simp
       with_reducible rfl
      rotate_left
      ·
       simp only [Act.put, sa0, sa1, sa2, i64_w, i32_w]
       rfl
      refine one_ (i := 6) (N := some 27) #[true, true, true, true, true, true, true, false] rfl rfl (one_of HT_.out (by kernel_rfl)) (by decide) (fun K hK => ?_)
      refine goes_ Try.func11 (by kernel_rfl) rfl #[.agg #[.int .i64 a0_0, .int .i64 a0_1, .int .i64 a0_2, .slice A0_3 l0_3.length c0_3], .int .i64 x13_1, .int .i64 x18_2] (by rfl) rfl rfl ga ?_
      with_reducible refine (mat_Matrix_At.calls a0_0 a0_1 a0_2 _ _ l0_3 x13_1 x18_2 t181 _ ?side1 ?side2 A18.out).mono ?_
      (case side1 => repeat (first | exact (Kd.C_below HR0_3.out HB.out) | (with_reducible refine Kd.C_alloc ?_ _) | (with_reducible refine Kd.C_drewN ?_ _) | (with_reducible refine Kd.C_drew ?_)))
      (case side2 => exact HC0_3.out)
      rintro e w21 ⟨rfl, hb⟩
      refine ⟨_, rfl, ?_⟩
      refine ax5 (Kd.R_below (kr HO_181003) hb) (bb BK172 hb) (bb BK173 hb) (bb BK180 hb) (below_step bes hb) ?_
      clear HO_181003 BK172 BK173 BK180 HB
      intro HO_181003 BK172 BK173 BK180 HB
      (try clear hb)
      (try clear hb2)
      (try clear hk)
      (try clear hi)
      obtain ⟨Ao22, co22, eo22⟩ := Kd.R_slice HO_181003.out
      (first | subst eo22 | (injection eo22 with f1_ f2_ f3_; have f4_ := f1_.symm; have f5_ := f3_.symm; clear f1_ f2_ f3_; subst f4_; subst f5_))
      refine hK.out _ _ ⟨(blk_cell BK180.out 0).trans rfl, (blk_cell BK180.out 1).trans rfl, (blk_cell BK180.out 2).trans rfl, (blk_cell BK180.out 3).trans rfl, (blk_cell BK172.out 0).trans rfl, (blk_cell BK172.out 1).trans rfl, (blk_cell BK172.out 2).trans rfl, (blk_cell BK172.out 3).trans rfl⟩ (fun hHeld => ?_)
      clear hK K
      refine norm_ (a' := ?_) ?_ ?_
      rotate_left
      ·
       show Act.put _ (some 27) _ = _
       simp only [Act.put, sa0, sa1, sa2, i64_w, i32_w]
       rfl
      refine one_ (i := 7) (N := some 28) #[true, true, true, true, true, true, true, true] rfl rfl (one_of HT_.out (by kernel_rfl)) (by decide) (fun K hK => ?_)
      refine goes_ Try.func14 (by kernel_rfl) rfl #[.agg #[.int .i64 t174, .int .i64 t175, .int .i64 t176, .slice Ao22 x181003_2.length co22], .int .i64 x13_1, .int .i64 x18_2, .int .u64 t181] (by rfl) rfl rfl ga ?_
      with_reducible refine (mat_Matrix_Set.calls t174 t175 t176 (fun k_ => some k_ = (.slice Ao22 x181003_2.length co22 : Value).ownBlock) (.slice Ao22 x181003_2.length co22) x181003_2 x13_1 x18_2 t181 t182 w _ ?side1 ?side2 A19.out).mono ?_
      (case side1 => repeat (first | (with_reducible first | exact HB.out | apply below_alloc | apply pw_below_drewN | apply below_drew1 | refine below_set ?_ GE172.out | refine below_set ?_ GE173.out | refine below_set ?_ GE180.out) | exact HB.out))
      (case side2 => exact Kd.R_tight rfl HO_181003.out)
      rintro e w23 ⟨rfl, hy0, hb, hkp⟩
      refine ⟨_, rfl, ?_⟩
      refine ax5 (Kd.R_reok rfl hy0 (fun k_ e_ => HO_181003.out.1 k_ e_)) (blk_kept (kb BK172) hkp (fun hs_ => (fun e_ => (Kd.R_ne HO_181003.out BK172.out (by decide)) e_) hs_)) (blk_kept (kb BK173) hkp (fun hs_ => (fun e_ => (Kd.R_ne HO_181003.out BK173.out (by decide)) e_) hs_)) (blk_kept (kb BK180) hkp (fun hs_ => (fun e_ => (Kd.R_ne HO_181003.out BK180.out (by decide)) e_) hs_)) hb ?_
      clear HO_181003 BK172 BK173 BK180 HB
      intro HO_181003 BK172 BK173 BK180 HB
      (try clear hb)
      (try clear hkp)
      (try clear hy0)
      refine hK.out _ _ ⟨(blk_cell BK180.out 0).trans rfl, (blk_cell BK180.out 1).trans rfl, (blk_cell BK180.out 2).trans rfl, (blk_cell BK180.out 3).trans rfl, (blk_cell BK172.out 0).trans rfl, (blk_cell BK172.out 1).trans rfl, (blk_cell BK172.out 2).trans rfl, (blk_cell BK172.out 3).trans rfl⟩ (fun hHeld => ?_)
      clear hK K
      refine norm_ (a' := ?_) ?_ ?_
      rotate_left
      ·
       show Act.put _ (some 28) _ = _
       simp only [Act.put, sa0, sa1, sa2, i64_w, i32_w]
       rfl
      refine done_ (done_of HT_.out (by kernel_rfl)) ?_
      try go_wp2
      go_roundg k2
      case measure => have := HK1.out; have := HK2.out; omega
      case rel => exact ⟨(wrap64 (x18_2 + 1)), (t182), (.slice Ao22 x181003_2.length co22), (by first | rfl | (simp; done) | (simp [*]; done)), H', ⟨by have := HK1.out; have := HK2.out; omega⟩, ⟨kr HO_181003⟩, ⟨kb BK172⟩, ⟨kb BK173⟩, ⟨kb BK180⟩, ⟨bes⟩⟩
   ·
    rw [if_neg c13] at H
    have c13b0 : decide (x13_1 < t174) = false := decide_eq_false c13
    clear c13
    simp only [Option.some.injEq, Prod.mk.injEq] at H
    obtain ⟨rfl, rfl, rfl, rfl⟩ := H
    have hnb24 := NB180_172.out
    have hnc24 := NB172_180.out
    have hnb25 := NB180_173.out
    have hnc25 := NB173_180.out
    have hcz26_0 := bc BK180 0 rfl
    have hcz26_1 := bc BK180 1 rfl
    have hcz26_2 := bc BK180 2 rfl
    have hcz26_3 := bc BK180 3 rfl
    have hfz26_0 := blk_frozen BK180.out 0
    have hfz26_1 := blk_frozen BK180.out 1
    have hfz26_2 := blk_frozen BK180.out 2
    have hfz26_3 := blk_frozen BK180.out 3
    have hnb27 := NB173_172.out
    have hnc27 := NB172_173.out
    have hcz28_0 := bc BK173 0 rfl
    have hcz28_1 := bc BK173 1 rfl
    have hcz28_2 := bc BK173 2 rfl
    have hcz28_3 := bc BK173 3 rfl
    have hfz28_0 := blk_frozen BK173.out 0
    have hfz28_1 := blk_frozen BK173.out 1
    have hfz28_2 := blk_frozen BK173.out 2
    have hfz28_3 := blk_frozen BK173.out 3
    obtain ⟨Ao29, co29, eo29⟩ := Kd.R_slice HO_181003.out
    subst eo29
    go_wp2
    refine bodyPost_ret (results_cell_row rfl _ _ gb173 25 #[.int .i64 t174, .int .i64 t175, .int .i64 t176, .slice Ao29 x181003_1.length co29] (0, 0) _ rfl (by (with_reducible repeat (first | refine blk_drewN ?_ _ | refine blk_drew ?_ | refine blk_alloc ?_ _)); refine blk_put (cs := #[.int .i64 t174, .int .i64 t175, .int .i64 t176, .slice none 0 0]) ?_ 3 _ rfl; (with_reducible repeat (first | refine blk_drewN ?_ _ | refine blk_drew ?_ | refine blk_alloc ?_ _)); refine blk_put (cs := #[.int .i64 t174, .int .i64 t175, .int .i64 0, .slice none 0 0]) ?_ 2 _ rfl; (with_reducible repeat (first | refine blk_drewN ?_ _ | refine blk_drew ?_ | refine blk_alloc ?_ _)); refine blk_put (cs := #[.int .i64 t174, .int .i64 0, .int .i64 0, .slice none 0 0]) ?_ 1 _ rfl; (with_reducible repeat (first | refine blk_drewN ?_ _ | refine blk_drew ?_ | refine blk_alloc ?_ _)); refine blk_put (cs := #[.int .i64 0, .int .i64 0, .int .i64 0, .slice none 0 0]) ?_ 0 _ rfl; (with_reducible repeat (first | refine blk_drewN ?_ _ | refine blk_drew ?_ | refine blk_alloc ?_ _)); exact BK173.out) Try.underlying25 rfl (by kernel_rfl)) rfl ?_
    exact ⟨_, er, by (with_reducible repeat (first | apply Kd.R_alloc | apply Kd.R_drewN | apply Kd.R_drew)); exact Kd.R_mono (Kd.R_far (p := ⟨gb173, 3, none⟩) (Kd.R_far (p := ⟨gb173, 2, none⟩) (Kd.R_far (p := ⟨gb173, 1, none⟩) (Kd.R_far (p := ⟨gb173, 0, none⟩) (Kd.R_types HO_181003.out BK173.out (by decide)) (fun _ hk => hk.2) (.int .i64 t174)) (fun _ hk => hk.2) (.int .i64 t175)) (fun _ hk => hk.2) (.int .i64 t176)) (fun _ hk => hk.2) (.slice Ao29 x181003_1.length co29)) (fun _ hk => trivial), bes⟩

/-! ### mat_Matrix_Scale: function 9 -/
def mat_Matrix_Scale.l0 : Nat → Int → Int → List Int → Int → Int → Int → Int → Int → Option (Int × Int × Int × List Int × Int)
 | 0, _, _, _, _, _, _, _, _ => none
 | k + 1, x1, x7, x15, x16, x17, x192000, x192001, x192002 => if x17 < x16 then (if 0 ≤ x17 then (if x17 < (x15.length : Int) then ((more_Scale.f k (rd x15 x17) x1).bind fun bt193 => (mat_Matrix_Scale.l0 k x1 (Go.bits .or .u8 x7 bt193.2) (x15.set (x17 : Int).toNat bt193.1) x16 (wrap64 (x17 + 1)) x192000 x192001 x192002)) else (none)) else (none)) else (some (x192000, x192001, x192002, x15, x7))
def mat_Matrix_Scale.f (k : Nat) (a0_0 : Int) (a0_1 : Int) (a0_2 : Int) (l0_3 : List Int) (a1 : Int) : Option (Int × Int × Int × List Int × Int) := (mat_Matrix_Clone.f k a0_0 a0_1 a0_2 l0_3).bind fun bt185 => (mat_Matrix_Scale.l0 k a1 0 bt185.2.2.2 (bt185.2.2.2.length : Int) 0 bt185.1 bt185.2.1 bt185.2.2.1)
theorem mat_Matrix_Scale.mono_l : ∀ k, (∀ y0 y1 y2 y3 y4 y5 y6 y7, LeO (mat_Matrix_Scale.l0 k y0 y1 y2 y3 y4 y5 y6 y7) (mat_Matrix_Scale.l0 (k + 1) y0 y1 y2 y3 y4 y5 y6 y7))
 | 0 => fun _ _ _ _ _ _ _ _ r h => by simp [mat_Matrix_Scale.l0] at h
 | k + 1 => by
  have ih0 := mat_Matrix_Scale.mono_l k
  ·
   intro y0 y1 y2 y3 y4 y5 y6 y7
   unfold mat_Matrix_Scale.l0
   repeat' with_reducible first | apply ih0 | apply mat_Matrix_Clone.mono | apply more_Scale.mono | exact LeO.refl _ | exact LeO.none _ | refine LeO.ite ?_ ?_ | refine LeO.bind ?_ (fun _ => ?_)
theorem mat_Matrix_Scale.mono : ∀ a0 a1 a2 a3 a4 k, LeO (mat_Matrix_Scale.f k a0 a1 a2 a3 a4) (mat_Matrix_Scale.f (k + 1) a0 a1 a2 a3 a4) := by
 intro a0 a1 a2 a3 a4 k
 have ih0 := mat_Matrix_Scale.mono_l k
 unfold mat_Matrix_Scale.f
 repeat' with_reducible first | apply ih0 | apply mat_Matrix_Clone.mono | apply more_Scale.mono | exact LeO.refl _ | exact LeO.none _ | refine LeO.ite ?_ ?_ | refine LeO.bind ?_ (fun _ => ?_)
set_option maxHeartbeats 8000000 in
set_option maxRecDepth 100000 in
theorem mat_Matrix_Scale.calls (k : Nat) (a0_0 : Int) (a0_1 : Int) (a0_2 : Int) (A0_3 : Option Addr) (c0_3 : Nat) (l0_3 : List Int) (a1 : Int) (r1 : Int) (r2 : Int) (r3 : Int) (r4 : List Int) (r5 : Int) (w : World) (hr0_3 : Kd.C (Kd.int .u64) w A0_3 l0_3.length l0_3) (hc0_3 : l0_3.length ≤ c0_3) (h : mat_Matrix_Scale.f k a0_0 a0_1 a0_2 l0_3 a1 = some (r1, r2, r3, r4, r5)) :
  Calls Try.prog 9 #[.agg #[.int .i64 a0_0, .int .i64 a0_1, .int .i64 a0_2, .slice A0_3 l0_3.length c0_3], .int .i64 a1] w fun e w' => ∃ v3_ : Value, e = .returned (.tuple #[.agg #[.int .i64 r1, .int .i64 r2, .int .i64 r3, v3_], .int .u8 r5]) ∧ Kd.R (Kd.int .u64) 30 w' w.heap.size (fun _ => True) v3_ r4 ∧ Below w.heap.size w w' := by
 have hu25 := Try.underlying25
 have HR0_3 := Aside0.mk hr0_3
 have HC0_3 := Aside0.mk hc0_3
 clear hr0_3 hc0_3
 have HB := Aside0.mk (Below.refl w.heap.size w)
 have H : ((mat_Matrix_Clone.f k a0_0 a0_1 a0_2 l0_3).bind fun bt185 => (mat_Matrix_Scale.l0 k a1 0 bt185.2.2.2 (bt185.2.2.2.length : Int) 0 bt185.1 bt185.2.1 bt185.2.2.1)) = some (r1, r2, r3, r4, r5) := h
 clear h
 obtain ⟨⟨t185, t186, t187, t188⟩, A30, H⟩ := Option.bind_eq_some_iff.mp H
 (try dsimp -simprocs only at H)
 have A3 := Aside0.mk A30
 clear A30
 have H' := Aside0.mk H
 clear H
 go_enter Try.func9, Try.ntmps9
 go_wp2_with (first | ((with_reducible refine gate_dst (N := 2) rfl ?_); refine gbox (N := 2) (cs := #[.int .i64 a0_0, .int .i64 a0_1, .int .i64 a0_2, .slice A0_3 l0_3.length c0_3]) (t := 25) ?_; intro gb183 hg w4 hbox hb; refine ax4 (below_step bel hb) hbox ((ge hg : w.heap.size ≤ gb183)) ((ge hg : w.heap.size ≤ gb183)) ?_; clear HB; intro HB BK183 GW183 GE183; clear hb hbox hg) | ((with_reducible refine gate_dst (N := 4) rfl ?_); refine gbox (N := 4) (cs := #[.int .i64 0, .int .i64 0, .int .i64 0, .slice none 0 0]) (t := 25) ?_; intro gb184 hg w5 hbox hb; refine ax7 (bb BK183 hb) (below_step bes hb) hbox ((ge hg : w.heap.size ≤ gb184)) ((ge hg : w.heap.size ≤ gb184)) (nl hg BK183) (ng hg BK183) ?_; clear BK183; clear HB; intro BK183 HB BK184 GW184 GE184 NB183_184 NB184_183; clear hb hbox hg; have hnb6 := NB183_184.out; have hnc6 := NB184_183.out; have hcz7_0 := bc BK183 0 rfl; have hcz7_1 := bc BK183 1 rfl; have hcz7_2 := bc BK183 2 rfl; have hcz7_3 := bc BK183 3 rfl; have hfz7_0 := blk_frozen BK183.out 0; have hfz7_1 := blk_frozen BK183.out 1; have hfz7_2 := blk_frozen BK183.out 2; have hfz7_3 := blk_frozen BK183.out 3) | ((with_reducible refine gate_callee (f := 15) rfl ?_); refine goesL_ (some 13) rfl rfl Try.func15 (by kernel_rfl) rfl #[.agg #[.int .i64 a0_0, .int .i64 a0_1, .int .i64 a0_2, .slice A0_3 l0_3.length c0_3]] rfl ga ?_; (with_reducible refine (mat_Matrix_Clone.calls k a0_0 a0_1 a0_2 _ _ l0_3 t185 t186 t187 t188 _ ?side1 ?side2 A3.out).mono ?_); (case side1 => repeat (first | exact (Kd.C_below HR0_3.out HB.out) | (with_reducible refine Kd.C_alloc ?_ _) | (with_reducible refine Kd.C_drewN ?_ _) | (with_reducible refine Kd.C_drew ?_))); (case side2 => exact HC0_3.out); rintro e w8 ⟨v189, rfl, ho0, hb⟩; refine ⟨_, rfl, ?_⟩; refine ax4 (Kd.R_lower ho0 (below_size bes)) (bb BK183 hb) (bb BK184 hb) (below_step bes hb) ?_; clear BK183; clear BK184; clear HB; intro HO190 BK183 BK184 HB; (try clear hb); (try clear ho0)) | ((with_reducible refine gate_dst (N := 6) rfl ?_); refine gbox (N := 6) (cs := #[.int .i64 0, .int .i64 0, .int .i64 0, .slice none 0 0]) (t := 25) ?_; intro gb191 hg w9 hbox hb; refine ax11 (Kd.R_below (kr HO190) hb) (bb BK183 hb) (bb BK184 hb) (below_step bes hb) hbox ((ge hg : w.heap.size ≤ gb191)) ((ge hg : w.heap.size ≤ gb191)) (nl hg BK183) (ng hg BK183) (nl hg BK184) (ng hg BK184) ?_; clear HO190; clear BK183; clear BK184; clear HB; intro HO190 BK183 BK184 HB BK191 GW191 GE191 NB183_191 NB191_183 NB184_191 NB191_184; clear hb hbox hg; have hnb10 := NB191_183.out; have hnc10 := NB183_191.out; have hnb11 := NB191_184.out; have hnc11 := NB184_191.out; have hcz12_0 := bc BK191 0 rfl; have hcz12_1 := bc BK191 1 rfl; have hcz12_2 := bc BK191 2 rfl; have hcz12_3 := bc BK191 3 rfl; have hfz12_0 := blk_frozen BK191.out 0; have hfz12_1 := blk_frozen BK191.out 1; have hfz12_2 := blk_frozen BK191.out 2; have hfz12_3 := blk_frozen BK191.out 3; obtain ⟨Ao13, co13, eo13⟩ := Kd.R_slice HO190.out; subst eo13))
 go_loopg [7, 17] k (fun kq v7 v17 w' => ∃ (x7_1 : Int) (x15_1 : List Int) (x17_1 : Int), v7 = .int .u8 x7_1 ∧ v17 = .int .i64 x17_1 ∧ Aside0 (mat_Matrix_Scale.l0 kq a1 x7_1 x15_1 (t188.length : Int) x17_1 t185 t186 t187 = some (r1, r2, r3, r4, r5)) ∧ Aside0 (kq ≤ k) ∧ Aside0 (Kd.R (Kd.int .u64) 30 w' w.heap.size (fun _ => True) (.slice Ao13 t188.length co13) x15_1) ∧ Aside0 (w'.heap[gb183]? = some (.cells #[.int .i64 a0_0, .int .i64 a0_1, .int .i64 a0_2, (.slice A0_3 l0_3.length c0_3)] 25 (0, 0))) ∧ Aside0 (w'.heap[gb184]? = some (.cells #[.int .i64 0, .int .i64 0, .int .i64 0, (.slice none 0 0)] 25 (0, 0))) ∧ Aside0 (w'.heap[gb191]? = some (.cells #[.int .i64 t185, .int .i64 t186, .int .i64 t187, (.slice Ao13 t188.length co13)] 25 (0, 0))) ∧ Aside0 (Below w.heap.size w w'))
 case atStart => exact ⟨(0), (t188), (0), (by first | rfl | (simp; done) | (simp [*]; done)), (by first | rfl | (simp; done) | (simp [*]; done)), H', ⟨Nat.le_refl _⟩, ⟨by (with_reducible repeat (first | apply Kd.R_alloc | apply Kd.R_drewN | apply Kd.R_drew)); exact Kd.R_mono (Kd.R_far (p := ⟨gb191, 3, none⟩) (Kd.R_far (p := ⟨gb191, 2, none⟩) (Kd.R_far (p := ⟨gb191, 1, none⟩) (Kd.R_far (p := ⟨gb191, 0, none⟩) (Kd.R_types HO190.out BK191.out (by decide)) (fun _ hk => hk.2) (.int .i64 t185)) (fun _ hk => hk.2) (.int .i64 t186)) (fun _ hk => hk.2) (.int .i64 t187)) (fun _ hk => hk.2) (.slice Ao13 t188.length co13)) (fun _ hk => trivial)⟩, ⟨by (with_reducible repeat (first | refine blk_drewN ?_ _ | refine blk_drew ?_ | refine blk_alloc ?_ _)); refine blk_far ?_ NB183_191.out _; (with_reducible repeat (first | refine blk_drewN ?_ _ | refine blk_drew ?_ | refine blk_alloc ?_ _)); refine blk_far ?_ NB183_191.out _; (with_reducible repeat (first | refine blk_drewN ?_ _ | refine blk_drew ?_ | refine blk_alloc ?_ _)); refine blk_far ?_ NB183_191.out _; (with_reducible repeat (first | refine blk_drewN ?_ _ | refine blk_drew ?_ | refine blk_alloc ?_ _)); refine blk_far ?_ NB183_191.out _; (with_reducible repeat (first | refine blk_drewN ?_ _ | refine blk_drew ?_ | refine blk_alloc ?_ _)); exact BK183.out⟩, ⟨by (with_reducible repeat (first | refine blk_drewN ?_ _ | refine blk_drew ?_ | refine blk_alloc ?_ _)); refine blk_far ?_ NB184_191.out _; (with_reducible repeat (first | refine blk_drewN ?_ _ | refine blk_drew ?_ | refine blk_alloc ?_ _)); refine blk_far ?_ NB184_191.out _; (with_reducible repeat (first | refine blk_drewN ?_ _ | refine blk_drew ?_ | refine blk_alloc ?_ _)); refine blk_far ?_ NB184_191.out _; (with_reducible repeat (first | refine blk_drewN ?_ _ | refine blk_drew ?_ | refine blk_alloc ?_ _)); refine blk_far ?_ NB184_191.out _; (with_reducible repeat (first | refine blk_drewN ?_ _ | refine blk_drew ?_ | refine blk_alloc ?_ _)); exact BK184.out⟩, ⟨by (with_reducible repeat (first | refine blk_drewN ?_ _ | refine blk_drew ?_ | refine blk_alloc ?_ _)); refine blk_put (cs := #[.int .i64 t185, .int .i64 t186, .int .i64 t187, .slice none 0 0]) ?_ 3 _ rfl; (with_reducible repeat (first | refine blk_drewN ?_ _ | refine blk_drew ?_ | refine blk_alloc ?_ _)); refine blk_put (cs := #[.int .i64 t185, .int .i64 t186, .int .i64 0, .slice none 0 0]) ?_ 2 _ rfl; (with_reducible repeat (first | refine blk_drewN ?_ _ | refine blk_drew ?_ | refine blk_alloc ?_ _)); refine blk_put (cs := #[.int .i64 t185, .int .i64 0, .int .i64 0, .slice none 0 0]) ?_ 1 _ rfl; (with_reducible repeat (first | refine blk_drewN ?_ _ | refine blk_drew ?_ | refine blk_alloc ?_ _)); refine blk_put (cs := #[.int .i64 0, .int .i64 0, .int .i64 0, .slice none 0 0]) ?_ 0 _ rfl; (with_reducible repeat (first | refine blk_drewN ?_ _ | refine blk_drew ?_ | refine blk_alloc ?_ _)); exact BK191.out⟩, ⟨bes⟩⟩
 case round =>
  clear H'
  try clear c1
  try clear p2
  try clear c6
  try clear c9
  try clear c10
  try clear c11
  try clear hcz12_0
  try clear hcz12_1
  try clear hcz12_2
  try clear hcz12_3
  try clear hcz7_0
  try clear hcz7_1
  try clear hcz7_2
  try clear hcz7_3
  try clear hfz12_0
  try clear hfz12_1
  try clear hfz12_2
  try clear hfz12_3
  try clear hfz7_0
  try clear hfz7_1
  try clear hfz7_2
  try clear hfz7_3
  obtain ⟨x7_1, x15_1, x17_1, rfl, rfl, HA, HK1, HO_15, BK183, BK184, BK191, HB⟩ := hrel
  have hl15_1 := (Kd.R_reads' HO_15.out).1
  rw [hl15_1] at HO_15
  (try simp only [hl15_1])
  (try simp only [hl15_1] at BK183)
  (try simp only [hl15_1] at BK184)
  (try simp only [hl15_1] at BK191)
  cases gk with
  | zero => exact absurd HA.out (by simp [mat_Matrix_Scale.l0])
  | succ k1 =>
   have H := HA.out
   clear HA
   simp only [mat_Matrix_Scale.l0] at H
   by_cases c14 : x17_1 < (t188.length : Int)
   ·
    rw [if_pos c14] at H
    have c14b0 : decide (x17_1 < (t188.length : Int)) = true := decide_eq_true c14
    (try (have c14b0_ := c14b0; simp only [hl15_1] at c14b0_))
    clear c14
    by_cases c15 : 0 ≤ x17_1
    rotate_left
    ·
     rw [if_neg c15] at H
     exact absurd H (by simp)
    rw [if_pos c15] at H
    have c15b0 : decide (0 ≤ x17_1) = true := decide_eq_true c15
    clear c15
    by_cases c16 : x17_1 < (x15_1.length : Int)
    rotate_left
    ·
     rw [if_neg c16] at H
     exact absurd H (by simp)
    rw [if_pos c16] at H
    have c16b0 : decide (x17_1 < (x15_1.length : Int)) = true := decide_eq_true c16
    (try (have c16b0_ := c16b0; simp only [hl15_1] at c16b0_))
    clear c16
    obtain ⟨⟨t193, t194⟩, A170, H⟩ := Option.bind_eq_some_iff.mp H
    (try dsimp -simprocs only at H)
    have A17 := Aside0.mk A170
    clear A170
    obtain ⟨y195, hy195⟩ : ∃ y_ : List Int, y_ = (x15_1.set (x17_1 : Int).toNat t193) := ⟨_, rfl⟩
    replace H : (mat_Matrix_Scale.l0 k1 a1 (Go.bits .or .u8 x7_1 t194) y195 (t188.length : Int) (wrap64 (x17_1 + 1)) t185 t186 t187) = some (r1, r2, r3, r4, r5) := by first | (rw [hy195]; with_reducible exact H) | (have H2_ := (Option.bind_some _ _).symm.trans H; rw [hy195]; with_reducible exact H2_) | (have H2_ := (Option.bind_some _ _).symm.trans H; with_reducible exact H2_) | with_reducible exact H | (rw [hy195]; exact H) | exact H
    have Ny195 := Aside0.mk hy195
    clear hy195
    have H' := Aside0.mk H
    clear H
    have p192 : 0 ≤ (x17_1 : Int) := of_decide_eq_true (by first | (with_reducible assumption) | assumption)
    have q192 : x17_1 < (x15_1.length : Int) := of_decide_eq_true (by first | (with_reducible assumption) | assumption)
    obtain ⟨ad192, e192, hx192_0⟩ := Kd.at_int (Kd.R_reads' HO_15.out).2.2 x17_1 p192 q192
    cases e192
    replace p192 := eq_true p192
    replace q192 := eq_true q192
    go_wp2_with (first | ((with_reducible refine gate_callee (f := 10) rfl ?_); refine goesL_ (some 25) rfl rfl Try.func10 (by kernel_rfl) rfl #[.int .u64 (rd x15_1 x17_1), .int .i64 a1] rfl ga ?_; (with_reducible refine (more_Scale.calls k1 (rd x15_1 x17_1) a1 t193 t194 _ A17.out).mono ?_); rintro e w19 ⟨rfl, hb⟩; refine ⟨_, rfl, ?_⟩; refine ax5 (Kd.R_below (kr HO_15) hb) (bb BK183 hb) (bb BK184 hb) (bb BK191 hb) (below_step bes hb) ?_; clear HO_15; clear BK183; clear BK184; clear BK191; clear HB; intro HO_15 BK183 BK184 BK191 HB; (try clear hb); have hnb20 := NB191_183.out; have hnc20 := NB183_191.out; have hnb21 := NB191_184.out; have hnc21 := NB184_191.out; have hcz22_0 := bc BK191 0 rfl; have hcz22_1 := bc BK191 1 rfl; have hcz22_2 := bc BK191 2 rfl; have hcz22_3 := bc BK191 3 rfl; have hfz22_0 := blk_frozen BK191.out 0; have hfz22_1 := blk_frozen BK191.out 1; have hfz22_2 := blk_frozen BK191.out 2; have hfz22_3 := blk_frozen BK191.out 3; have p18 : 0 ≤ (x17_1 : Int) := of_decide_eq_true (by first | (with_reducible assumption) | assumption); have q18 : (x17_1 : Int) < ((x15_1.length : Int) : Int) := of_decide_eq_true (by first | (with_reducible assumption) | assumption); obtain ⟨go18, co18, eo18, gb18, gl18, cl18, HG18⟩ := Kd.R_form HO_15.out (by omega); (first | cases eo18 | (injection eo18 with ea_ en_ ec_; (first | subst ea_ | (injection ea_ with ea_; subst ea_)); subst ec_; clear en_)); have GB18 := Aside0.mk gb18; have GG18 := Aside0.mk HG18; clear gb18 gl18 HG18; (first | simp only [add_plain] at hx192_0 | skip); obtain ⟨hx18_0, hf18_0⟩ := Kd.R_celln 0 HO_15.out (x17_1 : Int) p18 q18; replace p18 := eq_true p18; replace q18 := eq_true q18; obtain ⟨hy23_, hz23_⟩ := Kd.R_celln 0 HO_15.out (x17_1 : Int) (of_decide_eq_true (by first | (with_reducible assumption) | assumption)) (of_decide_eq_true (by first | (with_reducible assumption) | assumption)); have HP23 := Kd.R_putg HO_15.out (x17_1 : Int) t193) | ((with_reducible refine gate_store (t := 30) (p := 35) rfl ?_); refine store_event (t := 30) (p := 35) (v := ?vo_w24) (w1 := (w19.setCell ⟨go18, (x17_1 : Int).toNat, none⟩ (.int .u64 t193))) ?hg ?ho ?hn ?hr ?_; (case ho => rfl); (case hg => rfl); (case hn => rfl); (case hr => first | (go_simp; done) | (go_simp; rfl)); intro w24 hw; have hg : w19.grownBy w24 (some go18) := (by rw [hw]; exact HP23.2); have hp_ : Kd.R (Kd.int .u64) 30 w24 w.heap.size (fun _ => True) (.slice (some ⟨go18, 0, none⟩) x15_1.length co13) y195 := (by rw [hw, Ny195.out]; exact HP23.1); clear HP23; refine ax5 hp_ (blk_grown (g := gb183) (o := .cells #[.int .i64 a0_0, .int .i64 a0_1, .int .i64 a0_2, .slice A0_3 l0_3.length c0_3] 25 (0, 0)) (kb BK183) hg (Kd.R_ne HO_15.out BK183.out (by decide))) (blk_grown (g := gb184) (o := .cells #[.int .i64 0, .int .i64 0, .int .i64 0, .slice none 0 0] 25 (0, 0)) (kb BK184) hg (Kd.R_ne HO_15.out BK184.out (by decide))) (blk_grown (g := gb191) (o := .cells #[.int .i64 t185, .int .i64 t186, .int .i64 t187, .slice (some ⟨go18, 0, none⟩) x15_1.length co13] 25 (0, 0)) (kb BK191) hg (Kd.R_ne HO_15.out BK191.out (by decide))) ((by rw [hw]; exact below_set (HB.out) GB18.out : Below w.heap.size w w24)) ?_; clear HO_15; clear BK183; clear BK184; clear BK191; clear HB; intro HO_15 BK183 BK184 BK191 HB; clear hg hw hp_))
    (try simp only [← hl15_1])
    go_roundg k1
    case measure => have := HK1.out; omega
    case rel => exact ⟨(Go.bits .or .u8 x7_1 t194), (y195), (wrap64 (x17_1 + 1)), (by first | rfl | (simp; done) | (simp [*]; done)), (by first | rfl | (simp; done) | (simp [*]; done)), H', ⟨by have := HK1.out; omega⟩, ⟨by (try simp only [hl15_1]); (with_reducible repeat (first | apply Kd.R_alloc | apply Kd.R_drewN | apply Kd.R_drew)); exact HO_15.out⟩, ⟨by (try simp only [hl15_1]); (with_reducible repeat (first | refine blk_drewN ?_ _ | refine blk_drew ?_ | refine blk_alloc ?_ _)); exact BK183.out⟩, ⟨by (try simp only [hl15_1]); (with_reducible repeat (first | refine blk_drewN ?_ _ | refine blk_drew ?_ | refine blk_alloc ?_ _)); exact BK184.out⟩, ⟨by (try simp only [hl15_1]); (with_reducible repeat (first | refine blk_drewN ?_ _ | refine blk_drew ?_ | refine blk_alloc ?_ _)); exact BK191.out⟩, ⟨bes⟩⟩
   ·
    rw [if_neg c14] at H
    have c14b0 : decide (x17_1 < (t188.length : Int)) = false := decide_eq_false c14
    (try (have c14b0_ := c14b0; simp only [hl15_1] at c14b0_))
    clear c14
    simp only [Option.some.injEq, Prod.mk.injEq] at H
    obtain ⟨rfl, rfl, rfl, rfl, rfl⟩ := H
    have hnb25 := NB191_183.out
    have hnc25 := NB183_191.out
    have hnb26 := NB191_184.out
    have hnc26 := NB184_191.out
    have hcz27_0 := bc BK191 0 rfl
    have hcz27_1 := bc BK191 1 rfl
    have hcz27_2 := bc BK191 2 rfl
    have hcz27_3 := bc BK191 3 rfl
    have hfz27_0 := blk_frozen BK191.out 0
    have hfz27_1 := blk_frozen BK191.out 1
    have hfz27_2 := blk_frozen BK191.out 2
    have hfz27_3 := blk_frozen BK191.out 3
    have hnb28 := NB184_183.out
    have hnc28 := NB183_184.out
    have hcz29_0 := bc BK184 0 rfl
    have hcz29_1 := bc BK184 1 rfl
    have hcz29_2 := bc BK184 2 rfl
    have hcz29_3 := bc BK184 3 rfl
    have hfz29_0 := blk_frozen BK184.out 0
    have hfz29_1 := blk_frozen BK184.out 1
    have hfz29_2 := blk_frozen BK184.out 2
    have hfz29_3 := blk_frozen BK184.out 3
    go_wp2
    refine bodyPost_ret (results_ct rfl _ _ gb184 25 #[.int .i64 t185, .int .i64 t186, .int .i64 t187, .slice Ao13 x15_1.length co13] (0, 0) _ rfl (by (with_reducible repeat (first | refine blk_drewN ?_ _ | refine blk_drew ?_ | refine blk_alloc ?_ _)); refine blk_put (cs := #[.int .i64 t185, .int .i64 t186, .int .i64 t187, .slice none 0 0]) ?_ 3 _ rfl; (with_reducible repeat (first | refine blk_drewN ?_ _ | refine blk_drew ?_ | refine blk_alloc ?_ _)); refine blk_put (cs := #[.int .i64 t185, .int .i64 t186, .int .i64 0, .slice none 0 0]) ?_ 2 _ rfl; (with_reducible repeat (first | refine blk_drewN ?_ _ | refine blk_drew ?_ | refine blk_alloc ?_ _)); refine blk_put (cs := #[.int .i64 t185, .int .i64 0, .int .i64 0, .slice none 0 0]) ?_ 1 _ rfl; (with_reducible repeat (first | refine blk_drewN ?_ _ | refine blk_drew ?_ | refine blk_alloc ?_ _)); refine blk_put (cs := #[.int .i64 0, .int .i64 0, .int .i64 0, .slice none 0 0]) ?_ 0 _ rfl; (with_reducible repeat (first | refine blk_drewN ?_ _ | refine blk_drew ?_ | refine blk_alloc ?_ _)); exact BK184.out) Try.underlying25 rfl (by kernel_rfl)) rfl ?_
    exact ⟨_, er, by (with_reducible repeat (first | apply Kd.R_alloc | apply Kd.R_drewN | apply Kd.R_drew)); exact Kd.R_mono (Kd.R_far (p := ⟨gb184, 3, none⟩) (Kd.R_far (p := ⟨gb184, 2, none⟩) (Kd.R_far (p := ⟨gb184, 1, none⟩) (Kd.R_far (p := ⟨gb184, 0, none⟩) (Kd.R_types HO_15.out BK184.out (by decide)) (fun _ hk => hk.2) (.int .i64 t185)) (fun _ hk => hk.2) (.int .i64 t186)) (fun _ hk => hk.2) (.int .i64 t187)) (fun _ hk => hk.2) (.slice Ao13 x15_1.length co13)) (fun _ hk => trivial), bes⟩

/-! ### word_Abs: function 26 -/
def word_Abs.f (a0 : Int) : Option (Int) := some (Go.bits .andNot .u64 a0 9223372036854775808)
set_option maxHeartbeats 8000000 in
set_option maxRecDepth 100000 in
theorem word_Abs.calls (a0 : Int) (r : Int) (w : World) (h : word_Abs.f a0 = some r) :
  Calls Try.prog 26 #[.int .u64 a0] w fun e w' => e = .returned (.int .u64 r) ∧ Drawn0 w w' := by
 have H : (some (Go.bits .andNot .u64 a0 9223372036854775808)) = some r := h
 clear h
 obtain rfl := Option.some.inj H
 go_enter Try.func26, Try.ntmps26
 go_wp2
 go_ret
 exact ⟨by first | rfl | (simp; done) | (simp [*]; done), by repeat (first | exact Drawn0.refl _ | apply Drawn0.step)⟩

/-! ### mat_Matrix_Unit: function 19 -/
mutual
def mat_Matrix_Unit.l0 : Nat → Int → Int → Int → Int → Int → Int → List Int → Option (Int × Int × Int × List Int × Int)
 | 0, _, _, _, _, _, _, _ => none
 | k + 1, x4, x12, x13, x197000, x197001, x197002, x197003 => if x13 < x12 then (mat_Matrix_Unit.l1 k x4 x13 x12 x13 x197001 0 x197000 x197001 x197002 x197003) else ((word_Parts.f k x4).bind fun bt200 => (if bt200.1 = 0 then ((mat_Matrix_Clone.f k x197000 x197001 x197002 x197003).bind fun bt202 => (some (bt202.1, bt202.2.1, bt202.2.2.1, bt202.2.2.2, 0))) else (mat_Matrix_Unit.l2 k bt200.1 bt200.2 x197000 x197001 x197002 x197003)))
def mat_Matrix_Unit.l1 : Nat → Int → Int → Int → Int → Int → Int → Int → Int → Int → List Int → Option (Int × Int × Int × List Int × Int)
 | 0, _, _, _, _, _, _, _, _, _, _ => none
 | k + 1, x4, x5, x12, x13, x17, x18, x197000, x197001, x197002, x197003 => if x18 < x17 then ((mat_Matrix_At.f x197000 x197001 x197002 x197003 x5 x18).bind fun t198 => ((word_Abs.f t198).bind fun t199 => (mat_Matrix_Unit.l1 k (mx x4 t199) x5 x12 x13 x17 (wrap64 (x18 + 1)) x197000 x197001 x197002 x197003))) else (mat_Matrix_Unit.l0 k x4 x12 (wrap64 (x13 + 1)) x197000 x197001 x197002 x197003)
def mat_Matrix_Unit.l2 : Nat → Int → Int → Int → Int → Int → List Int → Option (Int × Int × Int × List Int × Int)
 | 0, _, _, _, _, _, _ => none
 | k + 1, x7, x8, x197000, x197001, x197002, x197003 => if x7 > 1 then (mat_Matrix_Unit.l2 k (x7 / 2) (wrap64 (x8 + 1)) x197000 x197001 x197002 x197003) else ((mat_Matrix_Scale.f k x197000 x197001 x197002 x197003 (wrap64 (-x8))).bind fun bt208 => (some (bt208.1, bt208.2.1, bt208.2.2.1, bt208.2.2.2.1, x8)))
end
def mat_Matrix_Unit.f (k : Nat) (a0_0 : Int) (a0_1 : Int) (a0_2 : Int) (l0_3 : List Int) : Option (Int × Int × Int × List Int × Int) := mat_Matrix_Unit.l0 k 0 a0_0 0 a0_0 a0_1 a0_2 l0_3
theorem mat_Matrix_Unit.mono_l : ∀ k, (∀ y0 y1 y2 y3 y4 y5 y6, LeO (mat_Matrix_Unit.l0 k y0 y1 y2 y3 y4 y5 y6) (mat_Matrix_Unit.l0 (k + 1) y0 y1 y2 y3 y4 y5 y6)) ∧ (∀ y0 y1 y2 y3 y4 y5 y6 y7 y8 y9, LeO (mat_Matrix_Unit.l1 k y0 y1 y2 y3 y4 y5 y6 y7 y8 y9) (mat_Matrix_Unit.l1 (k + 1) y0 y1 y2 y3 y4 y5 y6 y7 y8 y9)) ∧ (∀ y0 y1 y2 y3 y4 y5, LeO (mat_Matrix_Unit.l2 k y0 y1 y2 y3 y4 y5) (mat_Matrix_Unit.l2 (k + 1) y0 y1 y2 y3 y4 y5))
 | 0 => ⟨fun _ _ _ _ _ _ _ r h => by simp [mat_Matrix_Unit.l0] at h, fun _ _ _ _ _ _ _ _ _ _ r h => by simp [mat_Matrix_Unit.l1] at h, fun _ _ _ _ _ _ r h => by simp [mat_Matrix_Unit.l2] at h⟩
 | k + 1 => by
  obtain ⟨ih0, ih1, ih2⟩ := mat_Matrix_Unit.mono_l k
  refine ⟨?_, ?_, ?_⟩ <;> intros <;> (first | unfold mat_Matrix_Unit.l0 | unfold mat_Matrix_Unit.l1 | unfold mat_Matrix_Unit.l2) <;>
   repeat' with_reducible first | apply ih0 | apply ih1 | apply ih2 | apply mat_Matrix_Clone.mono | apply mat_Matrix_Scale.mono | apply word_Parts.mono | exact LeO.refl _ | exact LeO.none _ | refine LeO.ite ?_ ?_ | refine LeO.bind ?_ (fun _ => ?_)
theorem mat_Matrix_Unit.mono : ∀ a0 a1 a2 a3 k, LeO (mat_Matrix_Unit.f k a0 a1 a2 a3) (mat_Matrix_Unit.f (k + 1) a0 a1 a2 a3) := by
 intro a0 a1 a2 a3 k
 obtain ⟨ih0, ih1, ih2⟩ := mat_Matrix_Unit.mono_l k
 unfold mat_Matrix_Unit.f
 repeat' with_reducible first | apply ih0 | apply ih1 | apply ih2 | apply mat_Matrix_Clone.mono | apply mat_Matrix_Scale.mono | apply word_Parts.mono | exact LeO.refl _ | exact LeO.none _ | refine LeO.ite ?_ ?_ | refine LeO.bind ?_ (fun _ => ?_)
set_option maxHeartbeats 8000000 in
set_option maxRecDepth 100000 in
theorem mat_Matrix_Unit.calls (k : Nat) (a0_0 : Int) (a0_1 : Int) (a0_2 : Int) (A0_3 : Option Addr) (c0_3 : Nat) (l0_3 : List Int) (r1 : Int) (r2 : Int) (r3 : Int) (r4 : List Int) (r5 : Int) (w : World) (hr0_3 : Kd.C (Kd.int .u64) w A0_3 l0_3.length l0_3) (hc0_3 : l0_3.length ≤ c0_3) (h : mat_Matrix_Unit.f k a0_0 a0_1 a0_2 l0_3 = some (r1, r2, r3, r4, r5)) :
  Calls Try.prog 19 #[.agg #[.int .i64 a0_0, .int .i64 a0_1, .int .i64 a0_2, .slice A0_3 l0_3.length c0_3]] w fun e w' => ∃ v3_ : Value, e = .returned (.tuple #[.agg #[.int .i64 r1, .int .i64 r2, .int .i64 r3, v3_], .int .i64 r5]) ∧ Kd.R (Kd.int .u64) 30 w' w.heap.size (fun _ => True) v3_ r4 ∧ Below w.heap.size w w' := by
 have hu25 := Try.underlying25
 have HR0_3 := Aside0.mk hr0_3
 have HC0_3 := Aside0.mk hc0_3
 clear hr0_3 hc0_3
 have HB := Aside0.mk (Below.refl w.heap.size w)
 have H : (mat_Matrix_Unit.l0 k 0 a0_0 0 a0_0 a0_1 a0_2 l0_3) = some (r1, r2, r3, r4, r5) := h
 clear h
 have H' := Aside0.mk H
 clear H
 go_enter Try.func19, Try.ntmps19
 go_wp2_with (first | ((with_reducible refine gate_dst (N := 1) rfl ?_); refine gbox (N := 1) (cs := #[.int .i64 a0_0, .int .i64 a0_1, .int .i64 a0_2, .slice A0_3 l0_3.length c0_3]) (t := 25) ?_; intro gb196 hg w2 hbox hb; refine ax4 (below_step bel hb) hbox ((ge hg : w.heap.size ≤ gb196)) ((ge hg : w.heap.size ≤ gb196)) ?_; clear HB; intro HB BK196 GW196 GE196; clear hb hbox hg) | ((with_reducible refine gate_dst (N := 2) rfl ?_); refine gbox (N := 2) (cs := #[.int .i64 0, .int .i64 0, .int .i64 0, .slice none 0 0]) (t := 25) ?_; intro gb197 hg w3 hbox hb; refine ax7 (bb BK196 hb) (below_step bes hb) hbox ((ge hg : w.heap.size ≤ gb197)) ((ge hg : w.heap.size ≤ gb197)) (nl hg BK196) (ng hg BK196) ?_; clear BK196; clear HB; intro BK196 HB BK197 GW197 GE197 NB196_197 NB197_196; clear hb hbox hg; have hnb4 := NB196_197.out; have hnc4 := NB197_196.out; have hcz5_0 := bc BK196 0 rfl; have hcz5_1 := bc BK196 1 rfl; have hcz5_2 := bc BK196 2 rfl; have hcz5_3 := bc BK196 3 rfl; have hfz5_0 := blk_frozen BK196.out 0; have hfz5_1 := blk_frozen BK196.out 1; have hfz5_2 := blk_frozen BK196.out 2; have hfz5_3 := blk_frozen BK196.out 3))
 go_loopg [4, 13] k (fun kq v4 v13 w' => ∃ (x4_1 : Int) (x13_1 : Int), v4 = .int .u64 x4_1 ∧ v13 = .int .i64 x13_1 ∧ Aside0 (mat_Matrix_Unit.l0 kq x4_1 a0_0 x13_1 a0_0 a0_1 a0_2 l0_3 = some (r1, r2, r3, r4, r5)) ∧ Aside0 (kq ≤ k) ∧ Aside0 (w'.heap[gb196]? = some (.cells #[.int .i64 a0_0, .int .i64 a0_1, .int .i64 a0_2, (.slice A0_3 l0_3.length c0_3)] 25 (0, 0))) ∧ Aside0 (w'.heap[gb197]? = some (.cells #[.int .i64 0, .int .i64 0, .int .i64 0, (.slice none 0 0)] 25 (0, 0))) ∧ Aside0 (Below w.heap.size w w'))
 case atStart => exact ⟨(0), (0), (by first | rfl | (simp; done) | (simp [*]; done)), (by first | rfl | (simp; done) | (simp [*]; done)), H', ⟨Nat.le_refl _⟩, ⟨kb BK196⟩, ⟨kb BK197⟩, ⟨bes⟩⟩
 case round =>
  clear H'
  try clear c1
  try clear p2
  try clear c4
  try clear hcz5_0
  try clear hcz5_1
  try clear hcz5_2
  try clear hcz5_3
  try clear hfz5_0
  try clear hfz5_1
  try clear hfz5_2
  try clear hfz5_3
  obtain ⟨x4_1, x13_1, rfl, rfl, HA, HK1, BK196, BK197, HB⟩ := hrel
  cases gk with
  | zero => exact absurd HA.out (by simp [mat_Matrix_Unit.l0])
  | succ k1 =>
   have H := HA.out
   clear HA
   simp only [mat_Matrix_Unit.l0] at H
   by_cases c6 : x13_1 < a0_0
   ·
    rw [if_pos c6] at H
    have c6b0 : decide (x13_1 < a0_0) = true := decide_eq_true c6
    clear c6
    have H' := Aside0.mk H
    clear H
    have hnb7 := NB196_197.out
    have hnc7 := NB197_196.out
    have hcz8_0 := bc BK196 0 rfl
    have hcz8_1 := bc BK196 1 rfl
    have hcz8_2 := bc BK196 2 rfl
    have hcz8_3 := bc BK196 3 rfl
    have hfz8_0 := blk_frozen BK196.out 0
    have hfz8_1 := blk_frozen BK196.out 1
    have hfz8_2 := blk_frozen BK196.out 2
    have hfz8_3 := blk_frozen BK196.out 3
    go_wp2
    go_loopg [4, 18] k1 (fun kq v4 v18 w' => ∃ (x4_2 : Int) (x18_2 : Int), v4 = .int .u64 x4_2 ∧ v18 = .int .i64 x18_2 ∧ Aside0 (mat_Matrix_Unit.l1 kq x4_2 x13_1 a0_0 x13_1 a0_1 x18_2 a0_0 a0_1 a0_2 l0_3 = some (r1, r2, r3, r4, r5)) ∧ Aside0 (kq ≤ k1) ∧ Aside0 (w'.heap[gb196]? = some (.cells #[.int .i64 a0_0, .int .i64 a0_1, .int .i64 a0_2, (.slice A0_3 l0_3.length c0_3)] 25 (0, 0))) ∧ Aside0 (w'.heap[gb197]? = some (.cells #[.int .i64 0, .int .i64 0, .int .i64 0, (.slice none 0 0)] 25 (0, 0))) ∧ Aside0 (Below w.heap.size w w'))
    case atStart => exact ⟨(x4_1), (0), (by first | rfl | (simp; done) | (simp [*]; done)), (by first | rfl | (simp; done) | (simp [*]; done)), H', ⟨Nat.le_refl _⟩, ⟨kb BK196⟩, ⟨kb BK197⟩, ⟨bes⟩⟩
    case round =>
     clear H'
     try clear c1
     try clear p2
     try clear c4
     try clear c6
     try clear c6b0
     try clear c7
     try clear hcz5_0
     try clear hcz5_1
     try clear hcz5_2
     try clear hcz5_3
     try clear hcz8_0
     try clear hcz8_1
     try clear hcz8_2
     try clear hcz8_3
     try clear hfz5_0
     try clear hfz5_1
     try clear hfz5_2
     try clear hfz5_3
     try clear hfz8_0
     try clear hfz8_1
     try clear hfz8_2
     try clear hfz8_3
     try clear p2
     obtain ⟨x4_2, x18_2, rfl, rfl, HA, HK2, BK196, BK197, HB⟩ := hrel
     cases gk with
     | zero => exact absurd HA.out (by simp [mat_Matrix_Unit.l1])
     | succ k2 =>
      have H := HA.out
      clear HA
      simp only [mat_Matrix_Unit.l1] at H
      by_cases c9 : x18_2 < a0_1
      rotate_left
      ·
       rw [if_neg c9] at H
       have c9b0 : decide (x18_2 < a0_1) = false := decide_eq_false c9
       clear c9
       have H' := Aside0.mk H
       clear H
       go_wp2
       go_roundg k2
       case measure => have := HK1.out; have := HK2.out; omega
       case rel => exact ⟨(x4_2), (wrap64 (x13_1 + 1)), (by first | rfl | (simp; done) | (simp [*]; done)), (by first | rfl | (simp; done) | (simp [*]; done)), H', ⟨by have := HK1.out; have := HK2.out; omega⟩, ⟨kb BK196⟩, ⟨kb BK197⟩, ⟨bes⟩⟩
      rw [if_pos c9] at H
      have c9b0 : decide (x18_2 < a0_1) = true := decide_eq_true c9
      clear c9
      obtain ⟨t198, A100, H⟩ := Option.bind_eq_some_iff.mp H
      (try dsimp -simprocs only at H)
      have A10 := Aside0.mk A100
      clear A100
      obtain ⟨t199, A110, H⟩ := Option.bind_eq_some_iff.mp H
      (try dsimp -simprocs only at H)
      have A11 := Aside0.mk A110
      clear A110
      obtain ⟨ji12, hji12⟩ : ∃ j_ : Int, (mx x4_2 t199) = j_ := ⟨_, rfl⟩
      replace H : (mat_Matrix_Unit.l1 k2 ji12 x13_1 a0_0 x13_1 a0_1 (wrap64 (x18_2 + 1)) a0_0 a0_1 a0_2 l0_3) = some (r1, r2, r3, r4, r5) := by first | (rw [hji12] at H; exact H) | (simp only [hji12] at H ⊢; exact H)
      (try rw [hji12] at A10)
      (try rw [hji12] at A11)
      have hji12_ : (if x4_2 < t199 then t199 else x4_2) = ji12 := hji12
      have H' := Aside0.mk H
      clear H
      have hnb13 := NB196_197.out
      have hnc13 := NB197_196.out
      have hcz14_0 := bc BK196 0 rfl
      have hcz14_1 := bc BK196 1 rfl
      have hcz14_2 := bc BK196 2 rfl
      have hcz14_3 := bc BK196 3 rfl
      have hfz14_0 := blk_frozen BK196.out 0
      have hfz14_1 := blk_frozen BK196.out 1
      have hfz14_2 := blk_frozen BK196.out 2
      have hfz14_3 := blk_frozen BK196.out 3
      go_wp2_with (first | ((with_reducible refine gate_callee (f := 11) rfl ?_); refine goesL_ (some 25) rfl rfl Try.func11 (by kernel_rfl) rfl #[.agg #[.int .i64 a0_0, .int .i64 a0_1, .int .i64 a0_2, .slice A0_3 l0_3.length c0_3], .int .i64 x13_1, .int .i64 x18_2] rfl ga ?_; (with_reducible refine (mat_Matrix_At.calls a0_0 a0_1 a0_2 _ _ l0_3 x13_1 x18_2 t198 _ ?side1 ?side2 A10.out).mono ?_); (case side1 => repeat (first | exact (Kd.C_below HR0_3.out HB.out) | (with_reducible refine Kd.C_alloc ?_ _) | (with_reducible refine Kd.C_drewN ?_ _) | (with_reducible refine Kd.C_drew ?_))); (case side2 => exact HC0_3.out); rintro e w15 ⟨rfl, hb⟩; refine ⟨_, rfl, ?_⟩; refine ax3 (bb BK196 hb) (bb BK197 hb) (below_step bes hb) ?_; clear BK196; clear BK197; clear HB; intro BK196 BK197 HB; (try clear hb)) | ((with_reducible refine gate_callee (f := 26) rfl ?_); refine goesL_ (some 26) rfl rfl Try.func26 (by kernel_rfl) rfl #[.int .u64 t198] rfl ga ?_; (with_reducible refine (word_Abs.calls t198 t199 _ A11.out).mono ?_); rintro e w' ⟨rfl, ⟨nd, rfl⟩⟩; refine ⟨_, rfl, ?_⟩))
      go_roundg k2
      case measure => have := HK1.out; have := HK2.out; omega
      case rel => exact ⟨(ji12), (wrap64 (x18_2 + 1)), (by first | rfl | (simp; done) | (simp only [← hji12] <;> (first | rfl | simp)) | (simp [*]; done)), (by first | rfl | (simp; done) | (simp [*]; done)), H', ⟨by have := HK1.out; have := HK2.out; omega⟩, ⟨kb BK196⟩, ⟨kb BK197⟩, ⟨bes⟩⟩
   ·
    rw [if_neg c6] at H
    have c6b0 : decide (x13_1 < a0_0) = false := decide_eq_false c6
    clear c6
    obtain ⟨⟨t200, t201⟩, A160, H⟩ := Option.bind_eq_some_iff.mp H
    (try dsimp -simprocs only at H)
    have A16 := Aside0.mk A160
    clear A160
    by_cases c17 : t200 = 0
    ·
     rw [if_pos c17] at H
     have c17b0 : (t200 == 0) = true := beq_iff_eq.mpr c17
     have c17b1 : (t200 != 0) = false := bne_eq_false_iff_eq.mpr c17
     clear c17
     obtain ⟨⟨t202, t203, t204, t205⟩, A180, H⟩ := Option.bind_eq_some_iff.mp H
     (try dsimp -simprocs only at H)
     have A18 := Aside0.mk A180
     clear A180
     simp only [Option.some.injEq, Prod.mk.injEq] at H
     obtain ⟨rfl, rfl, rfl, rfl, rfl⟩ := H
     go_wp2_with (first | ((with_reducible refine gate_callee (f := 22) rfl ?_); refine goesL_ (some 32) rfl rfl Try.func22 (by kernel_rfl) rfl #[.int .u64 x4_1] rfl ga ?_; (with_reducible refine (word_Parts.calls k1 x4_1 t200 t201 _ A16.out).mono ?_); rintro e w' ⟨rfl, ⟨nd, rfl⟩⟩; refine ⟨_, rfl, ?_⟩; (try (rw [drewN_self wr]; generalize hq_ : World.drewN wr _ = wr; have n0_ : Aside0 (wr.heap[gb196]? = some (.cells #[.int .i64 a0_0, .int .i64 a0_1, .int .i64 a0_2, .slice A0_3 l0_3.length c0_3] 25 (0, 0))) := ⟨by rw [← hq_]; exact (kb BK196)⟩; have n1_ : Aside0 (wr.heap[gb197]? = some (.cells #[.int .i64 0, .int .i64 0, .int .i64 0, .slice none 0 0] 25 (0, 0))) := ⟨by rw [← hq_]; exact (kb BK197)⟩; have n2_ : Aside0 (Below w.heap.size w wr) := ⟨by rw [← hq_]; exact bes⟩; clear BK196 BK197 HB hq_; have BK196 := n0_; have BK197 := n1_; have HB := n2_; clear n0_ n1_ n2_)); have hnb19 := NB196_197.out; have hnc19 := NB197_196.out; have hcz20_0 := bc BK196 0 rfl; have hcz20_1 := bc BK196 1 rfl; have hcz20_2 := bc BK196 2 rfl; have hcz20_3 := bc BK196 3 rfl; have hfz20_0 := blk_frozen BK196.out 0; have hfz20_1 := blk_frozen BK196.out 1; have hfz20_2 := blk_frozen BK196.out 2; have hfz20_3 := blk_frozen BK196.out 3) | ((with_reducible refine gate_callee (f := 15) rfl ?_); refine goesL_ (some 38) rfl rfl Try.func15 (by kernel_rfl) rfl #[.agg #[.int .i64 a0_0, .int .i64 a0_1, .int .i64 a0_2, .slice A0_3 l0_3.length c0_3]] rfl ga ?_; (with_reducible refine (mat_Matrix_Clone.calls k1 a0_0 a0_1 a0_2 _ _ l0_3 t202 t203 t204 t205 _ ?side1 ?side2 A18.out).mono ?_); (case side1 => repeat (first | exact (Kd.C_below HR0_3.out HB.out) | (with_reducible refine Kd.C_alloc ?_ _) | (with_reducible refine Kd.C_drewN ?_ _) | (with_reducible refine Kd.C_drew ?_))); (case side2 => exact HC0_3.out); rintro e w21 ⟨v206, rfl, ho0, hb⟩; refine ⟨_, rfl, ?_⟩; refine ax4 (Kd.R_lower ho0 (below_size bes)) (bb BK196 hb) (bb BK197 hb) (below_step bes hb) ?_; clear BK196; clear BK197; clear HB; intro HO207 BK196 BK197 HB; (try clear hb); (try clear ho0); have hcz22_0 := bc BK197 0 rfl; have hcz22_1 := bc BK197 1 rfl; have hcz22_2 := bc BK197 2 rfl; have hcz22_3 := bc BK197 3 rfl; have hfz22_0 := blk_frozen BK197.out 0; have hfz22_1 := blk_frozen BK197.out 1; have hfz22_2 := blk_frozen BK197.out 2; have hfz22_3 := blk_frozen BK197.out 3; obtain ⟨Ao23, co23, eo23⟩ := Kd.R_slice HO207.out; subst eo23))
     refine bodyPost_ret (results_ct rfl _ _ gb197 25 #[.int .i64 t202, .int .i64 t203, .int .i64 t204, .slice Ao23 t205.length co23] (0, 0) _ rfl (by (with_reducible repeat (first | refine blk_drewN ?_ _ | refine blk_drew ?_ | refine blk_alloc ?_ _)); refine blk_put (cs := #[.int .i64 t202, .int .i64 t203, .int .i64 t204, .slice none 0 0]) ?_ 3 _ rfl; (with_reducible repeat (first | refine blk_drewN ?_ _ | refine blk_drew ?_ | refine blk_alloc ?_ _)); refine blk_put (cs := #[.int .i64 t202, .int .i64 t203, .int .i64 0, .slice none 0 0]) ?_ 2 _ rfl; (with_reducible repeat (first | refine blk_drewN ?_ _ | refine blk_drew ?_ | refine blk_alloc ?_ _)); refine blk_put (cs := #[.int .i64 t202, .int .i64 0, .int .i64 0, .slice none 0 0]) ?_ 1 _ rfl; (with_reducible repeat (first | refine blk_drewN ?_ _ | refine blk_drew ?_ | refine blk_alloc ?_ _)); refine blk_put (cs := #[.int .i64 0, .int .i64 0, .int .i64 0, .slice none 0 0]) ?_ 0 _ rfl; (with_reducible repeat (first | refine blk_drewN ?_ _ | refine blk_drew ?_ | refine blk_alloc ?_ _)); exact BK197.out) Try.underlying25 rfl (by kernel_rfl)) rfl ?_
     exact ⟨_, er, by (with_reducible repeat (first | apply Kd.R_alloc | apply Kd.R_drewN | apply Kd.R_drew)); exact Kd.R_mono (Kd.R_far (p := ⟨gb197, 3, none⟩) (Kd.R_far (p := ⟨gb197, 2, none⟩) (Kd.R_far (p := ⟨gb197, 1, none⟩) (Kd.R_far (p := ⟨gb197, 0, none⟩) (Kd.R_types HO207.out BK197.out (by decide)) (fun _ hk => hk.2) (.int .i64 t202)) (fun _ hk => hk.2) (.int .i64 t203)) (fun _ hk => hk.2) (.int .i64 t204)) (fun _ hk => hk.2) (.slice Ao23 t205.length co23)) (fun _ hk => trivial), bes⟩
    ·
     rw [if_neg c17] at H
     have c17b0 : (t200 == 0) = false := beq_eq_false_iff_ne.mpr c17
     have c17b1 : (t200 != 0) = true := bne_iff_ne.mpr c17
     have H' := Aside0.mk H
     clear H
     go_wp2_with (first | ((with_reducible refine gate_callee (f := 22) rfl ?_); refine goesL_ (some 32) rfl rfl Try.func22 (by kernel_rfl) rfl #[.int .u64 x4_1] rfl ga ?_; (with_reducible refine (word_Parts.calls k1 x4_1 t200 t201 _ A16.out).mono ?_); rintro e w' ⟨rfl, ⟨nd, rfl⟩⟩; refine ⟨_, rfl, ?_⟩))
     go_loopg [7, 8] k1 (fun kq v7 v8 w' => ∃ (x7_2 : Int) (x8_2 : Int), v7 = .int .u64 x7_2 ∧ v8 = .int .i64 x8_2 ∧ Aside0 (mat_Matrix_Unit.l2 kq x7_2 x8_2 a0_0 a0_1 a0_2 l0_3 = some (r1, r2, r3, r4, r5)) ∧ Aside0 (kq ≤ k1) ∧ Aside0 (w'.heap[gb196]? = some (.cells #[.int .i64 a0_0, .int .i64 a0_1, .int .i64 a0_2, (.slice A0_3 l0_3.length c0_3)] 25 (0, 0))) ∧ Aside0 (w'.heap[gb197]? = some (.cells #[.int .i64 0, .int .i64 0, .int .i64 0, (.slice none 0 0)] 25 (0, 0))) ∧ Aside0 (Below w.heap.size w w'))
     case atStart => exact ⟨(t200), (t201), (by first | rfl | (simp; done) | (simp [*]; done)), (by first | rfl | (simp; done) | (simp [*]; done)), H', ⟨Nat.le_refl _⟩, ⟨kb BK196⟩, ⟨kb BK197⟩, ⟨bes⟩⟩
     case round =>
      clear H'
      try clear c1
      try clear c2
      try clear p2
      try clear c4
      try clear c6
      try clear c6b0
      try clear p6
      try clear c7
      try clear c9
      try clear c9b0
      try clear c11
      try clear c13
      try clear c15
      try clear c17
      try clear c17b0
      try clear c17b1
      try clear c19
      try clear c22
      try clear hcz14_0
      try clear hcz14_1
      try clear hcz14_2
      try clear hcz14_3
      try clear hcz20_0
      try clear hcz20_1
      try clear hcz20_2
      try clear hcz20_3
      try clear hcz22_0
      try clear hcz22_1
      try clear hcz22_2
      try clear hcz22_3
      try clear hcz5_0
      try clear hcz5_1
      try clear hcz5_2
      try clear hcz5_3
      try clear hcz8_0
      try clear hcz8_1
      try clear hcz8_2
      try clear hcz8_3
      try clear hfz14_0
      try clear hfz14_1
      try clear hfz14_2
      try clear hfz14_3
      try clear hfz20_0
      try clear hfz20_1
      try clear hfz20_2
      try clear hfz20_3
      try clear hfz22_0
      try clear hfz22_1
      try clear hfz22_2
      try clear hfz22_3
      try clear hfz5_0
      try clear hfz5_1
      try clear hfz5_2
      try clear hfz5_3
      try clear hfz8_0
      try clear hfz8_1
      try clear hfz8_2
      try clear hfz8_3
      try clear p2
      obtain ⟨x7_2, x8_2, rfl, rfl, HA, HK2, BK196, BK197, HB⟩ := hrel
      cases gk with
      | zero => exact absurd HA.out (by simp [mat_Matrix_Unit.l2])
      | succ k2 =>
       have H := HA.out
       clear HA
       simp only [mat_Matrix_Unit.l2] at H
       by_cases c24 : x7_2 > 1
       ·
        rw [if_pos c24] at H
        have c24b0 : decide (1 < x7_2) = true := decide_eq_true c24
        clear c24
        have H' := Aside0.mk H
        clear H
        go_wp2
        go_roundg k2
        case measure => have := HK1.out; have := HK2.out; omega
        case rel => exact ⟨(x7_2 / 2), (wrap64 (x8_2 + 1)), (by first | rfl | (simp; done) | (simp [*]; done)), (by first | rfl | (simp; done) | (simp [*]; done)), H', ⟨by have := HK1.out; have := HK2.out; omega⟩, ⟨kb BK196⟩, ⟨kb BK197⟩, ⟨bes⟩⟩
       ·
        rw [if_neg c24] at H
        have c24b0 : decide (1 < x7_2) = false := decide_eq_false c24
        clear c24
        obtain ⟨⟨t208, t209, t210, t211, t214⟩, A250, H⟩ := Option.bind_eq_some_iff.mp H
        (try dsimp -simprocs only at H)
        have A25 := Aside0.mk A250
        clear A250
        simp only [Option.some.injEq, Prod.mk.injEq] at H
        obtain ⟨rfl, rfl, rfl, rfl, rfl⟩ := H
        have hnb26 := NB196_197.out
        have hnc26 := NB197_196.out
        have hcz27_0 := bc BK196 0 rfl
        have hcz27_1 := bc BK196 1 rfl
        have hcz27_2 := bc BK196 2 rfl
        have hcz27_3 := bc BK196 3 rfl
        have hfz27_0 := blk_frozen BK196.out 0
        have hfz27_1 := blk_frozen BK196.out 1
        have hfz27_2 := blk_frozen BK196.out 2
        have hfz27_3 := blk_frozen BK196.out 3
        go_wp2_with (first | ((with_reducible refine gate_callee (f := 9) rfl ?_); refine goesL_ (some 49) rfl rfl Try.func9 (by kernel_rfl) rfl #[.agg #[.int .i64 a0_0, .int .i64 a0_1, .int .i64 a0_2, .slice A0_3 l0_3.length c0_3], .int .i64 (wrap64 (-x8_2))] rfl ga ?_; (with_reducible refine (mat_Matrix_Scale.calls k2 a0_0 a0_1 a0_2 _ _ l0_3 (wrap64 (-x8_2)) t208 t209 t210 t211 t214 _ ?side1 ?side2 A25.out).mono ?_); (case side1 => repeat (first | exact (Kd.C_below HR0_3.out HB.out) | (with_reducible refine Kd.C_alloc ?_ _) | (with_reducible refine Kd.C_drewN ?_ _) | (with_reducible refine Kd.C_drew ?_))); (case side2 => exact HC0_3.out); rintro e w28 ⟨v212, rfl, ho0, hb⟩; refine ⟨_, rfl, ?_⟩; refine ax4 (Kd.R_lower ho0 (below_size bes)) (bb BK196 hb) (bb BK197 hb) (below_step bes hb) ?_; clear BK196; clear BK197; clear HB; intro HO213 BK196 BK197 HB; (try clear hb); (try clear ho0)) | ((with_reducible refine gate_dst (N := 9) rfl ?_); refine gbox (N := 9) (cs := #[.int .i64 0, .int .i64 0, .int .i64 0, .slice none 0 0]) (t := 25) ?_; intro gb215 hg w29 hbox hb; refine ax11 (Kd.R_below (kr HO213) hb) (bb BK196 hb) (bb BK197 hb) (below_step bes hb) hbox ((ge hg : w.heap.size ≤ gb215)) ((ge hg : w.heap.size ≤ gb215)) (nl hg BK196) (ng hg BK196) (nl hg BK197) (ng hg BK197) ?_; clear HO213; clear BK196; clear BK197; clear HB; intro HO213 BK196 BK197 HB BK215 GW215 GE215 NB196_215 NB215_196 NB197_215 NB215_197; clear hb hbox hg; have hnb30 := NB215_196.out; have hnc30 := NB196_215.out; have hnb31 := NB215_197.out; have hnc31 := NB197_215.out; have hcz32_0 := bc BK215 0 rfl; have hcz32_1 := bc BK215 1 rfl; have hcz32_2 := bc BK215 2 rfl; have hcz32_3 := bc BK215 3 rfl; have hfz32_0 := blk_frozen BK215.out 0; have hfz32_1 := blk_frozen BK215.out 1; have hfz32_2 := blk_frozen BK215.out 2; have hfz32_3 := blk_frozen BK215.out 3; obtain ⟨Ao33, co33, eo33⟩ := Kd.R_slice HO213.out; subst eo33; have hcz34_0 := bc BK197 0 rfl; have hcz34_1 := bc BK197 1 rfl; have hcz34_2 := bc BK197 2 rfl; have hcz34_3 := bc BK197 3 rfl; have hfz34_0 := blk_frozen BK197.out 0; have hfz34_1 := blk_frozen BK197.out 1; have hfz34_2 := blk_frozen BK197.out 2; have hfz34_3 := blk_frozen BK197.out 3))
        refine bodyPost_ret (results_ct rfl _ _ gb197 25 #[.int .i64 t208, .int .i64 t209, .int .i64 t210, .slice Ao33 t211.length co33] (0, 0) _ rfl (by (with_reducible repeat (first | refine blk_drewN ?_ _ | refine blk_drew ?_ | refine blk_alloc ?_ _)); refine blk_put (cs := #[.int .i64 t208, .int .i64 t209, .int .i64 t210, .slice none 0 0]) ?_ 3 _ rfl; (with_reducible repeat (first | refine blk_drewN ?_ _ | refine blk_drew ?_ | refine blk_alloc ?_ _)); refine blk_put (cs := #[.int .i64 t208, .int .i64 t209, .int .i64 0, .slice none 0 0]) ?_ 2 _ rfl; (with_reducible repeat (first | refine blk_drewN ?_ _ | refine blk_drew ?_ | refine blk_alloc ?_ _)); refine blk_put (cs := #[.int .i64 t208, .int .i64 0, .int .i64 0, .slice none 0 0]) ?_ 1 _ rfl; (with_reducible repeat (first | refine blk_drewN ?_ _ | refine blk_drew ?_ | refine blk_alloc ?_ _)); refine blk_put (cs := #[.int .i64 0, .int .i64 0, .int .i64 0, .slice none 0 0]) ?_ 0 _ rfl; (with_reducible repeat (first | refine blk_drewN ?_ _ | refine blk_drew ?_ | refine blk_alloc ?_ _)); refine blk_far ?_ NB197_215.out _; (with_reducible repeat (first | refine blk_drewN ?_ _ | refine blk_drew ?_ | refine blk_alloc ?_ _)); refine blk_far ?_ NB197_215.out _; (with_reducible repeat (first | refine blk_drewN ?_ _ | refine blk_drew ?_ | refine blk_alloc ?_ _)); refine blk_far ?_ NB197_215.out _; (with_reducible repeat (first | refine blk_drewN ?_ _ | refine blk_drew ?_ | refine blk_alloc ?_ _)); refine blk_far ?_ NB197_215.out _; (with_reducible repeat (first | refine blk_drewN ?_ _ | refine blk_drew ?_ | refine blk_alloc ?_ _)); exact BK197.out) Try.underlying25 rfl (by kernel_rfl)) rfl ?_
        exact ⟨_, er, by (with_reducible repeat (first | apply Kd.R_alloc | apply Kd.R_drewN | apply Kd.R_drew)); exact Kd.R_mono (Kd.R_far (p := ⟨gb197, 3, none⟩) (Kd.R_far (p := ⟨gb197, 2, none⟩) (Kd.R_far (p := ⟨gb197, 1, none⟩) (Kd.R_far (p := ⟨gb197, 0, none⟩) (Kd.R_far (p := ⟨gb215, 3, none⟩) (Kd.R_far (p := ⟨gb215, 2, none⟩) (Kd.R_far (p := ⟨gb215, 1, none⟩) (Kd.R_far (p := ⟨gb215, 0, none⟩) (Kd.R_types (Kd.R_types HO213.out BK215.out (by decide)) BK197.out (by decide)) (fun _ hk => hk.1.2) (.int .i64 t208)) (fun _ hk => hk.1.2) (.int .i64 t209)) (fun _ hk => hk.1.2) (.int .i64 t210)) (fun _ hk => hk.1.2) (.slice Ao33 t211.length co33)) (fun _ hk => hk.2) (.int .i64 t208)) (fun _ hk => hk.2) (.int .i64 t209)) (fun _ hk => hk.2) (.int .i64 t210)) (fun _ hk => hk.2) (.slice Ao33 t211.length co33)) (fun _ hk => trivial), bes⟩

/-! ### gimballaw09_head: function 7 -/
def gimballaw09_head.f (k : Nat)  : Option (Bool) := (mat_New.f 1 2).bind fun bt216 => ((mat_Matrix_Set.f bt216.1 bt216.2.1 bt216.2.2.1 bt216.2.2.2 0 0 4613937818241073152).bind fun t223 => ((mat_Matrix_Set.f bt216.1 bt216.2.1 bt216.2.2.1 t223 0 1 13840687554816376832).bind fun t224 => ((mat_Matrix_Unit.f k bt216.1 bt216.2.1 bt216.2.2.1 t224).bind fun bt225 => (if bt225.2.2.2.2 = 2 then ((mat_Matrix_At.f bt225.1 bt225.2.1 bt225.2.2.1 bt225.2.2.2.1 0 1).bind fun t233 => (if t233 = 13831680355561635840 then ((mat_Matrix_At.f bt225.1 bt225.2.1 bt225.2.2.1 bt225.2.2.2.1 0 0).bind fun t234 => (some (t234 == 4604930618986332160))) else (some false))) else (some false)))))
theorem gimballaw09_head.mono : ∀ k, LeO (gimballaw09_head.f k ) (gimballaw09_head.f (k + 1) ) := by
 intro  k
 unfold gimballaw09_head.f
 repeat' with_reducible first | apply mat_Matrix_Unit.mono | exact LeO.refl _ | exact LeO.none _ | refine LeO.ite ?_ ?_ | refine LeO.bind ?_ (fun _ => ?_)
set_option maxHeartbeats 8000000 in
set_option maxRecDepth 100000 in
theorem gimballaw09_head.calls (k : Nat)  (r : Bool) (w : World) (h : gimballaw09_head.f k  = some r) :
  Calls Try.prog 7 #[] w fun e w' => e = .returned (.bool r) ∧ Below w.heap.size w w' := by
 have hu25 := Try.underlying25
 have HB := Aside0.mk (Below.refl w.heap.size w)
 have H : ((mat_New.f 1 2).bind fun bt216 => ((mat_Matrix_Set.f bt216.1 bt216.2.1 bt216.2.2.1 bt216.2.2.2 0 0 4613937818241073152).bind fun t223 => ((mat_Matrix_Set.f bt216.1 bt216.2.1 bt216.2.2.1 t223 0 1 13840687554816376832).bind fun t224 => ((mat_Matrix_Unit.f k bt216.1 bt216.2.1 bt216.2.2.1 t224).bind fun bt225 => (if bt225.2.2.2.2 = 2 then ((mat_Matrix_At.f bt225.1 bt225.2.1 bt225.2.2.1 bt225.2.2.2.1 0 1).bind fun t233 => (if t233 = 13831680355561635840 then ((mat_Matrix_At.f bt225.1 bt225.2.1 bt225.2.2.1 bt225.2.2.2.1 0 0).bind fun t234 => (some (t234 == 4604930618986332160))) else (some false))) else (some false)))))) = some r := h
 clear h
 obtain ⟨⟨t216, t217, t218, t219⟩, A10, H⟩ := Option.bind_eq_some_iff.mp H
 (try dsimp -simprocs only at H)
 have A1 := Aside0.mk A10
 clear A10
 obtain ⟨t223, A20, H⟩ := Option.bind_eq_some_iff.mp H
 (try dsimp -simprocs only at H)
 have A2 := Aside0.mk A20
 clear A20
 obtain ⟨t224, A30, H⟩ := Option.bind_eq_some_iff.mp H
 (try dsimp -simprocs only at H)
 have A3 := Aside0.mk A30
 clear A30
 obtain ⟨⟨t225, t226, t227, t228, t231⟩, A40, H⟩ := Option.bind_eq_some_iff.mp H
 (try dsimp -simprocs only at H)
 have A4 := Aside0.mk A40
 clear A40
 by_cases c5 : t231 = 2
 rotate_left
 ·
  rw [if_neg c5] at H
  have c5b0 : (t231 == 2) = false := beq_eq_false_iff_ne.mpr c5
  have c5b1 : (t231 != 2) = true := bne_iff_ne.mpr c5
  obtain rfl := Option.some.inj H
  go_enter Try.func7, Try.ntmps7
  go_wp2_with (first | ((with_reducible refine gate_callee (f := 18) rfl ?_); refine goesL_ (some 4) rfl rfl Try.func18 (by kernel_rfl) rfl #[.int .i64 1, .int .i64 2] rfl ga ?_; (with_reducible refine (mat_New.calls 1 2 t216 t217 t218 t219 _ A1.out).mono ?_); rintro e w43 ⟨v220, rfl, ho0, hb⟩; refine ⟨_, rfl, ?_⟩; refine ax2 (Kd.R_lower ho0 (below_size bel)) (below_step bel hb) ?_; clear HB; intro HO221 HB; (try clear hb); (try clear ho0)) | ((with_reducible refine gate_dst (N := 1) rfl ?_); refine gbox (N := 1) (cs := #[.int .i64 0, .int .i64 0, .int .i64 0, .slice none 0 0]) (t := 25) ?_; intro gb222 hg w44 hbox hb; refine ax5 (Kd.R_below (kr HO221) hb) (below_step bel hb) hbox ((ge hg : w.heap.size ≤ gb222)) ((ge hg : w.heap.size ≤ gb222)) ?_; clear HO221; clear HB; intro HO221 HB BK222 GW222 GE222; clear hb hbox hg; have hcz45_0 := bc BK222 0 rfl; have hcz45_1 := bc BK222 1 rfl; have hcz45_2 := bc BK222 2 rfl; have hcz45_3 := bc BK222 3 rfl; have hfz45_0 := blk_frozen BK222.out 0; have hfz45_1 := blk_frozen BK222.out 1; have hfz45_2 := blk_frozen BK222.out 2; have hfz45_3 := blk_frozen BK222.out 3; obtain ⟨Ao46, co46, eo46⟩ := Kd.R_slice HO221.out; subst eo46) | ((with_reducible refine gate_store (t := 25) (p := 1) rfl ?_); refine store_event (t := 25) (p := 1) (v := ?vo_w47) (w1 := ((((w44.setCell ⟨gb222, 0, none⟩ (.int .i64 t216)).setCell ⟨gb222, 1, none⟩ (.int .i64 t217)).setCell ⟨gb222, 2, none⟩ (.int .i64 t218)).setCell ⟨gb222, 3, none⟩ (.slice Ao46 t219.length co46))) ?hg ?ho ?hn ?hr ?_; (case ho => rfl); (case hg => rfl); (case hn => rfl); (case hr => first | (go_simp; done) | (go_simp; rfl)); intro w47 hw; have n0_ : Aside0 (Kd.R (Kd.int .u64) 30 w47 w.heap.size (fun _ => True) (.slice Ao46 t219.length co46) t219) := ⟨(by rw [hw]; exact (by (with_reducible repeat (first | apply Kd.R_alloc | apply Kd.R_drewN | apply Kd.R_drew)); exact Kd.R_mono (Kd.R_far (p := ⟨gb222, 3, none⟩) (Kd.R_far (p := ⟨gb222, 2, none⟩) (Kd.R_far (p := ⟨gb222, 1, none⟩) (Kd.R_far (p := ⟨gb222, 0, none⟩) (Kd.R_types HO221.out BK222.out (by decide)) (fun _ hk => hk.2) (.int .i64 t216)) (fun _ hk => hk.2) (.int .i64 t217)) (fun _ hk => hk.2) (.int .i64 t218)) (fun _ hk => hk.2) (.slice Ao46 t219.length co46)) (fun _ hk => trivial)))⟩; have n1_ : Aside0 (w47.heap[gb222]? = some (.cells #[.int .i64 t216, .int .i64 t217, .int .i64 t218, .slice Ao46 t219.length co46] 25 (0, 0))) := ⟨(by rw [hw]; exact (by (with_reducible repeat (first | refine blk_drewN ?_ _ | refine blk_drew ?_ | refine blk_alloc ?_ _)); refine blk_put (cs := #[.int .i64 t216, .int .i64 t217, .int .i64 t218, .slice none 0 0]) ?_ 3 _ rfl; (with_reducible repeat (first | refine blk_drewN ?_ _ | refine blk_drew ?_ | refine blk_alloc ?_ _)); refine blk_put (cs := #[.int .i64 t216, .int .i64 t217, .int .i64 0, .slice none 0 0]) ?_ 2 _ rfl; (with_reducible repeat (first | refine blk_drewN ?_ _ | refine blk_drew ?_ | refine blk_alloc ?_ _)); refine blk_put (cs := #[.int .i64 t216, .int .i64 0, .int .i64 0, .slice none 0 0]) ?_ 1 _ rfl; (with_reducible repeat (first | refine blk_drewN ?_ _ | refine blk_drew ?_ | refine blk_alloc ?_ _)); refine blk_put (cs := #[.int .i64 0, .int .i64 0, .int .i64 0, .slice none 0 0]) ?_ 0 _ rfl; (with_reducible repeat (first | refine blk_drewN ?_ _ | refine blk_drew ?_ | refine blk_alloc ?_ _)); exact BK222.out))⟩; have n2_ : Aside0 (Below w.heap.size w w47) := ⟨(by rw [hw]; exact bes)⟩; clear hw; clear HO221; clear BK222; clear HB; have HO221 := n0_; have BK222 := n1_; have HB := n2_; clear n0_ n1_ n2_; have hcz48_0 := bc BK222 0 rfl; have hcz48_1 := bc BK222 1 rfl; have hcz48_2 := bc BK222 2 rfl; have hcz48_3 := bc BK222 3 rfl; have hfz48_0 := blk_frozen BK222.out 0; have hfz48_1 := blk_frozen BK222.out 1; have hfz48_2 := blk_frozen BK222.out 2; have hfz48_3 := blk_frozen BK222.out 3) | ((with_reducible refine gate_callee (f := 14) rfl ?_); refine goesL_ (some 6) rfl rfl Try.func14 (by kernel_rfl) rfl #[.agg #[.int .i64 t216, .int .i64 t217, .int .i64 t218, .slice Ao46 t219.length co46], .int .i64 0, .int .i64 0, .int .u64 4613937818241073152] rfl ga ?_; (with_reducible refine (mat_Matrix_Set.calls t216 t217 t218 (fun k_ => some k_ = (.slice Ao46 t219.length co46 : Value).ownBlock) (.slice Ao46 t219.length co46) t219 0 0 4613937818241073152 t223 w _ ?side1 ?side2 A2.out).mono ?_); (case side1 => repeat (first | (with_reducible first | exact HB.out | apply below_alloc | apply pw_below_drewN | apply below_drew1 | refine below_set ?_ GE222.out) | exact HB.out)); (case side2 => exact Kd.R_tight rfl HO221.out); rintro e w49 ⟨rfl, hy0, hb, hkp⟩; refine ⟨_, rfl, ?_⟩; refine ax3 (Kd.R_reok rfl hy0 (fun k_ e_ => HO221.out.1 k_ e_)) (blk_kept (kb BK222) hkp (fun hs_ => (fun e_ => (Kd.R_ne HO221.out BK222.out (by decide)) e_) hs_)) hb ?_; clear HO221; clear BK222; clear HB; intro HO221 BK222 HB; (try clear hb); (try clear hkp); (try clear hy0); have hcz50_0 := bc BK222 0 rfl; have hcz50_1 := bc BK222 1 rfl; have hcz50_2 := bc BK222 2 rfl; have hcz50_3 := bc BK222 3 rfl; have hfz50_0 := blk_frozen BK222.out 0; have hfz50_1 := blk_frozen BK222.out 1; have hfz50_2 := blk_frozen BK222.out 2; have hfz50_3 := blk_frozen BK222.out 3) | ((with_reducible refine gate_callee (f := 14) rfl ?_); refine goesL_ (some 8) rfl rfl Try.func14 (by kernel_rfl) rfl #[.agg #[.int .i64 t216, .int .i64 t217, .int .i64 t218, .slice Ao46 t219.length co46], .int .i64 0, .int .i64 1, .int .u64 13840687554816376832] rfl ga ?_; (with_reducible refine (mat_Matrix_Set.calls t216 t217 t218 (fun k_ => some k_ = (.slice Ao46 t219.length co46 : Value).ownBlock) (.slice Ao46 t219.length co46) t223 0 1 13840687554816376832 t224 w _ ?side1 ?side2 A3.out).mono ?_); (case side1 => repeat (first | (with_reducible first | exact HB.out | apply below_alloc | apply pw_below_drewN | apply below_drew1 | refine below_set ?_ GE222.out) | exact HB.out)); (case side2 => exact Kd.R_tight rfl HO221.out); rintro e w51 ⟨rfl, hy0, hb, hkp⟩; refine ⟨_, rfl, ?_⟩; refine ax3 (Kd.R_reok rfl hy0 (fun k_ e_ => HO221.out.1 k_ e_)) (blk_kept (kb BK222) hkp (fun hs_ => (fun e_ => (Kd.R_ne HO221.out BK222.out (by decide)) e_) hs_)) hb ?_; clear HO221; clear BK222; clear HB; intro HO221 BK222 HB; (try clear hb); (try clear hkp); (try clear hy0); have hcz52_0 := bc BK222 0 rfl; have hcz52_1 := bc BK222 1 rfl; have hcz52_2 := bc BK222 2 rfl; have hcz52_3 := bc BK222 3 rfl; have hfz52_0 := blk_frozen BK222.out 0; have hfz52_1 := blk_frozen BK222.out 1; have hfz52_2 := blk_frozen BK222.out 2; have hfz52_3 := blk_frozen BK222.out 3) | ((with_reducible refine gate_callee (f := 19) rfl ?_); refine goesL_ (some 11) rfl rfl Try.func19 (by kernel_rfl) rfl #[.agg #[.int .i64 t216, .int .i64 t217, .int .i64 t218, .slice Ao46 t224.length co46]] rfl (by (try simp only [List.map_toArray, List.map_cons, List.map_nil]); first | done | (rw [show t224.length = t219.length from (Kd.R_reads' HO221.out).1.symm] <;> rfl) | rfl | (simp only [List.length_drop, List.length_take]; rfl)) ?_; (with_reducible refine (mat_Matrix_Unit.calls k t216 t217 t218 _ _ t224 t225 t226 t227 t228 t231 _ ?side1 ?side2 A4.out).mono ?_); (case side1 => exact ks HO221); (case side2 => rw [show t224.length = t219.length from (Kd.R_reads' HO221.out).1.symm]; exact (Kd.R_reads' HO221.out).2.1); rintro e w53 ⟨v229, rfl, ho0, hb⟩; refine ⟨_, rfl, ?_⟩; refine ax4 (Kd.R_elder' (kr HO221) (Kd.R_base ho0) hb) (Kd.R_lower (Kd.R_new' ho0 (Kd.R_lt (kr HO221))) (below_size bes)) (bb BK222 hb) (below_step bes hb) ?_; clear HO221; clear BK222; clear HB; intro HO221 HO230 BK222 HB; (try clear hb); (try clear ho0)) | ((with_reducible refine gate_dst (N := 2) rfl ?_); refine gbox (N := 2) (cs := #[.int .i64 0, .int .i64 0, .int .i64 0, .slice none 0 0]) (t := 25) ?_; intro gb232 hg w54 hbox hb; refine ax9 (Kd.R_below (kr HO221) hb) (Kd.R_below (kr HO230) hb) (bb BK222 hb) (below_step bes hb) hbox ((ge hg : w.heap.size ≤ gb232)) ((ge hg : w.heap.size ≤ gb232)) (nl hg BK222) (ng hg BK222) ?_; clear HO221; clear HO230; clear BK222; clear HB; intro HO221 HO230 BK222 HB BK232 GW232 GE232 NB222_232 NB232_222; clear hb hbox hg; have hnb55 := NB232_222.out; have hnc55 := NB222_232.out; have hcz56_0 := bc BK232 0 rfl; have hcz56_1 := bc BK232 1 rfl; have hcz56_2 := bc BK232 2 rfl; have hcz56_3 := bc BK232 3 rfl; have hfz56_0 := blk_frozen BK232.out 0; have hfz56_1 := blk_frozen BK232.out 1; have hfz56_2 := blk_frozen BK232.out 2; have hfz56_3 := blk_frozen BK232.out 3; obtain ⟨Ao57, co57, eo57⟩ := Kd.R_slice HO230.out; subst eo57))
  go_ret
  exact ⟨er, bes⟩

 rw [if_pos c5] at H
 have c5b0 : (t231 == 2) = true := beq_iff_eq.mpr c5
 have c5b1 : (t231 != 2) = false := bne_eq_false_iff_eq.mpr c5
 clear c5
 obtain ⟨t233, A60, H⟩ := Option.bind_eq_some_iff.mp H
 (try dsimp -simprocs only at H)
 have A6 := Aside0.mk A60
 clear A60
 by_cases c7 : t233 = 13831680355561635840
 rotate_left
 ·
  rw [if_neg c7] at H
  have c7b0 : (t233 == 13831680355561635840) = false := beq_eq_false_iff_ne.mpr c7
  have c7b1 : (t233 != 13831680355561635840) = true := bne_iff_ne.mpr c7
  obtain rfl := Option.some.inj H
  go_enter Try.func7, Try.ntmps7
  go_wp2_with (first | ((with_reducible refine gate_callee (f := 18) rfl ?_); refine goesL_ (some 4) rfl rfl Try.func18 (by kernel_rfl) rfl #[.int .i64 1, .int .i64 2] rfl ga ?_; (with_reducible refine (mat_New.calls 1 2 t216 t217 t218 t219 _ A1.out).mono ?_); rintro e w27 ⟨v220, rfl, ho0, hb⟩; refine ⟨_, rfl, ?_⟩; refine ax2 (Kd.R_lower ho0 (below_size bel)) (below_step bel hb) ?_; clear HB; intro HO221 HB; (try clear hb); (try clear ho0)) | ((with_reducible refine gate_dst (N := 1) rfl ?_); refine gbox (N := 1) (cs := #[.int .i64 0, .int .i64 0, .int .i64 0, .slice none 0 0]) (t := 25) ?_; intro gb222 hg w28 hbox hb; refine ax5 (Kd.R_below (kr HO221) hb) (below_step bel hb) hbox ((ge hg : w.heap.size ≤ gb222)) ((ge hg : w.heap.size ≤ gb222)) ?_; clear HO221; clear HB; intro HO221 HB BK222 GW222 GE222; clear hb hbox hg; have hcz29_0 := bc BK222 0 rfl; have hcz29_1 := bc BK222 1 rfl; have hcz29_2 := bc BK222 2 rfl; have hcz29_3 := bc BK222 3 rfl; have hfz29_0 := blk_frozen BK222.out 0; have hfz29_1 := blk_frozen BK222.out 1; have hfz29_2 := blk_frozen BK222.out 2; have hfz29_3 := blk_frozen BK222.out 3; obtain ⟨Ao30, co30, eo30⟩ := Kd.R_slice HO221.out; subst eo30) | ((with_reducible refine gate_store (t := 25) (p := 1) rfl ?_); refine store_event (t := 25) (p := 1) (v := ?vo_w31) (w1 := ((((w28.setCell ⟨gb222, 0, none⟩ (.int .i64 t216)).setCell ⟨gb222, 1, none⟩ (.int .i64 t217)).setCell ⟨gb222, 2, none⟩ (.int .i64 t218)).setCell ⟨gb222, 3, none⟩ (.slice Ao30 t219.length co30))) ?hg ?ho ?hn ?hr ?_; (case ho => rfl); (case hg => rfl); (case hn => rfl); (case hr => first | (go_simp; done) | (go_simp; rfl)); intro w31 hw; have n0_ : Aside0 (Kd.R (Kd.int .u64) 30 w31 w.heap.size (fun _ => True) (.slice Ao30 t219.length co30) t219) := ⟨(by rw [hw]; exact (by (with_reducible repeat (first | apply Kd.R_alloc | apply Kd.R_drewN | apply Kd.R_drew)); exact Kd.R_mono (Kd.R_far (p := ⟨gb222, 3, none⟩) (Kd.R_far (p := ⟨gb222, 2, none⟩) (Kd.R_far (p := ⟨gb222, 1, none⟩) (Kd.R_far (p := ⟨gb222, 0, none⟩) (Kd.R_types HO221.out BK222.out (by decide)) (fun _ hk => hk.2) (.int .i64 t216)) (fun _ hk => hk.2) (.int .i64 t217)) (fun _ hk => hk.2) (.int .i64 t218)) (fun _ hk => hk.2) (.slice Ao30 t219.length co30)) (fun _ hk => trivial)))⟩; have n1_ : Aside0 (w31.heap[gb222]? = some (.cells #[.int .i64 t216, .int .i64 t217, .int .i64 t218, .slice Ao30 t219.length co30] 25 (0, 0))) := ⟨(by rw [hw]; exact (by (with_reducible repeat (first | refine blk_drewN ?_ _ | refine blk_drew ?_ | refine blk_alloc ?_ _)); refine blk_put (cs := #[.int .i64 t216, .int .i64 t217, .int .i64 t218, .slice none 0 0]) ?_ 3 _ rfl; (with_reducible repeat (first | refine blk_drewN ?_ _ | refine blk_drew ?_ | refine blk_alloc ?_ _)); refine blk_put (cs := #[.int .i64 t216, .int .i64 t217, .int .i64 0, .slice none 0 0]) ?_ 2 _ rfl; (with_reducible repeat (first | refine blk_drewN ?_ _ | refine blk_drew ?_ | refine blk_alloc ?_ _)); refine blk_put (cs := #[.int .i64 t216, .int .i64 0, .int .i64 0, .slice none 0 0]) ?_ 1 _ rfl; (with_reducible repeat (first | refine blk_drewN ?_ _ | refine blk_drew ?_ | refine blk_alloc ?_ _)); refine blk_put (cs := #[.int .i64 0, .int .i64 0, .int .i64 0, .slice none 0 0]) ?_ 0 _ rfl; (with_reducible repeat (first | refine blk_drewN ?_ _ | refine blk_drew ?_ | refine blk_alloc ?_ _)); exact BK222.out))⟩; have n2_ : Aside0 (Below w.heap.size w w31) := ⟨(by rw [hw]; exact bes)⟩; clear hw; clear HO221; clear BK222; clear HB; have HO221 := n0_; have BK222 := n1_; have HB := n2_; clear n0_ n1_ n2_; have hcz32_0 := bc BK222 0 rfl; have hcz32_1 := bc BK222 1 rfl; have hcz32_2 := bc BK222 2 rfl; have hcz32_3 := bc BK222 3 rfl; have hfz32_0 := blk_frozen BK222.out 0; have hfz32_1 := blk_frozen BK222.out 1; have hfz32_2 := blk_frozen BK222.out 2; have hfz32_3 := blk_frozen BK222.out 3) | ((with_reducible refine gate_callee (f := 14) rfl ?_); refine goesL_ (some 6) rfl rfl Try.func14 (by kernel_rfl) rfl #[.agg #[.int .i64 t216, .int .i64 t217, .int .i64 t218, .slice Ao30 t219.length co30], .int .i64 0, .int .i64 0, .int .u64 4613937818241073152] rfl ga ?_; (with_reducible refine (mat_Matrix_Set.calls t216 t217 t218 (fun k_ => some k_ = (.slice Ao30 t219.length co30 : Value).ownBlock) (.slice Ao30 t219.length co30) t219 0 0 4613937818241073152 t223 w _ ?side1 ?side2 A2.out).mono ?_); (case side1 => repeat (first | (with_reducible first | exact HB.out | apply below_alloc | apply pw_below_drewN | apply below_drew1 | refine below_set ?_ GE222.out) | exact HB.out)); (case side2 => exact Kd.R_tight rfl HO221.out); rintro e w33 ⟨rfl, hy0, hb, hkp⟩; refine ⟨_, rfl, ?_⟩; refine ax3 (Kd.R_reok rfl hy0 (fun k_ e_ => HO221.out.1 k_ e_)) (blk_kept (kb BK222) hkp (fun hs_ => (fun e_ => (Kd.R_ne HO221.out BK222.out (by decide)) e_) hs_)) hb ?_; clear HO221; clear BK222; clear HB; intro HO221 BK222 HB; (try clear hb); (try clear hkp); (try clear hy0); have hcz34_0 := bc BK222 0 rfl; have hcz34_1 := bc BK222 1 rfl; have hcz34_2 := bc BK222 2 rfl; have hcz34_3 := bc BK222 3 rfl; have hfz34_0 := blk_frozen BK222.out 0; have hfz34_1 := blk_frozen BK222.out 1; have hfz34_2 := blk_frozen BK222.out 2; have hfz34_3 := blk_frozen BK222.out 3) | ((with_reducible refine gate_callee (f := 14) rfl ?_); refine goesL_ (some 8) rfl rfl Try.func14 (by kernel_rfl) rfl #[.agg #[.int .i64 t216, .int .i64 t217, .int .i64 t218, .slice Ao30 t219.length co30], .int .i64 0, .int .i64 1, .int .u64 13840687554816376832] rfl ga ?_; (with_reducible refine (mat_Matrix_Set.calls t216 t217 t218 (fun k_ => some k_ = (.slice Ao30 t219.length co30 : Value).ownBlock) (.slice Ao30 t219.length co30) t223 0 1 13840687554816376832 t224 w _ ?side1 ?side2 A3.out).mono ?_); (case side1 => repeat (first | (with_reducible first | exact HB.out | apply below_alloc | apply pw_below_drewN | apply below_drew1 | refine below_set ?_ GE222.out) | exact HB.out)); (case side2 => exact Kd.R_tight rfl HO221.out); rintro e w35 ⟨rfl, hy0, hb, hkp⟩; refine ⟨_, rfl, ?_⟩; refine ax3 (Kd.R_reok rfl hy0 (fun k_ e_ => HO221.out.1 k_ e_)) (blk_kept (kb BK222) hkp (fun hs_ => (fun e_ => (Kd.R_ne HO221.out BK222.out (by decide)) e_) hs_)) hb ?_; clear HO221; clear BK222; clear HB; intro HO221 BK222 HB; (try clear hb); (try clear hkp); (try clear hy0); have hcz36_0 := bc BK222 0 rfl; have hcz36_1 := bc BK222 1 rfl; have hcz36_2 := bc BK222 2 rfl; have hcz36_3 := bc BK222 3 rfl; have hfz36_0 := blk_frozen BK222.out 0; have hfz36_1 := blk_frozen BK222.out 1; have hfz36_2 := blk_frozen BK222.out 2; have hfz36_3 := blk_frozen BK222.out 3) | ((with_reducible refine gate_callee (f := 19) rfl ?_); refine goesL_ (some 11) rfl rfl Try.func19 (by kernel_rfl) rfl #[.agg #[.int .i64 t216, .int .i64 t217, .int .i64 t218, .slice Ao30 t224.length co30]] rfl (by (try simp only [List.map_toArray, List.map_cons, List.map_nil]); first | done | (rw [show t224.length = t219.length from (Kd.R_reads' HO221.out).1.symm] <;> rfl) | rfl | (simp only [List.length_drop, List.length_take]; rfl)) ?_; (with_reducible refine (mat_Matrix_Unit.calls k t216 t217 t218 _ _ t224 t225 t226 t227 t228 t231 _ ?side1 ?side2 A4.out).mono ?_); (case side1 => exact ks HO221); (case side2 => rw [show t224.length = t219.length from (Kd.R_reads' HO221.out).1.symm]; exact (Kd.R_reads' HO221.out).2.1); rintro e w37 ⟨v229, rfl, ho0, hb⟩; refine ⟨_, rfl, ?_⟩; refine ax4 (Kd.R_elder' (kr HO221) (Kd.R_base ho0) hb) (Kd.R_lower (Kd.R_new' ho0 (Kd.R_lt (kr HO221))) (below_size bes)) (bb BK222 hb) (below_step bes hb) ?_; clear HO221; clear BK222; clear HB; intro HO221 HO230 BK222 HB; (try clear hb); (try clear ho0)) | ((with_reducible refine gate_dst (N := 2) rfl ?_); refine gbox (N := 2) (cs := #[.int .i64 0, .int .i64 0, .int .i64 0, .slice none 0 0]) (t := 25) ?_; intro gb232 hg w38 hbox hb; refine ax9 (Kd.R_below (kr HO221) hb) (Kd.R_below (kr HO230) hb) (bb BK222 hb) (below_step bes hb) hbox ((ge hg : w.heap.size ≤ gb232)) ((ge hg : w.heap.size ≤ gb232)) (nl hg BK222) (ng hg BK222) ?_; clear HO221; clear HO230; clear BK222; clear HB; intro HO221 HO230 BK222 HB BK232 GW232 GE232 NB222_232 NB232_222; clear hb hbox hg; have hnb39 := NB232_222.out; have hnc39 := NB222_232.out; have hcz40_0 := bc BK232 0 rfl; have hcz40_1 := bc BK232 1 rfl; have hcz40_2 := bc BK232 2 rfl; have hcz40_3 := bc BK232 3 rfl; have hfz40_0 := blk_frozen BK232.out 0; have hfz40_1 := blk_frozen BK232.out 1; have hfz40_2 := blk_frozen BK232.out 2; have hfz40_3 := blk_frozen BK232.out 3; obtain ⟨Ao41, co41, eo41⟩ := Kd.R_slice HO230.out; subst eo41) | (go_at_call 11; (with_reducible refine (mat_Matrix_At.calls t225 t226 t227 _ _ t228 0 1 t233 _ ?side1 ?side2 A6.out).mono ?_); (case side1 => refine (Kd.R_reads' (e := 30) (base := w.heap.size) (ok := fun k_ => (True ∧ some k_ ≠ (.slice Ao30 t219.length co30 : Value).ownBlock)) (n := t228.length) (c := co41) ?_).2.2; exact (by (with_reducible repeat (first | apply Kd.R_alloc | apply Kd.R_drewN | apply Kd.R_drew)); exact (Kd.R_mono (Kd.R_far (p := ⟨gb232, 3, none⟩) (Kd.R_far (p := ⟨gb232, 2, none⟩) (Kd.R_far (p := ⟨gb232, 1, none⟩) (Kd.R_far (p := ⟨gb232, 0, none⟩) (Kd.R_types HO230.out BK232.out (by decide)) (fun _ hk => hk.2) (.int .i64 t225)) (fun _ hk => hk.2) (.int .i64 t226)) (fun _ hk => hk.2) (.int .i64 t227)) (fun _ hk => hk.2) (.slice Ao41 t228.length co41)) (fun _ h_ => h_.1)))); (case side2 => exact (Kd.R_reads' HO230.out).2.1); rintro e w42 ⟨rfl, hb⟩; refine ax5 (Kd.R_below (by (with_reducible repeat (first | apply Kd.R_alloc | apply Kd.R_drewN | apply Kd.R_drew)); exact (Kd.R_mono (Kd.R_far (p := ⟨gb232, 3, none⟩) (Kd.R_far (p := ⟨gb232, 2, none⟩) (Kd.R_far (p := ⟨gb232, 1, none⟩) (Kd.R_far (p := ⟨gb232, 0, none⟩) (Kd.R_types HO221.out BK232.out (by decide)) (fun _ hk => hk.2) (.int .i64 t225)) (fun _ hk => hk.2) (.int .i64 t226)) (fun _ hk => hk.2) (.int .i64 t227)) (fun _ hk => hk.2) (.slice Ao41 t228.length co41)) (fun _ h_ => h_.1))) hb) (Kd.R_below (by (with_reducible repeat (first | apply Kd.R_alloc | apply Kd.R_drewN | apply Kd.R_drew)); exact (Kd.R_mono (Kd.R_far (p := ⟨gb232, 3, none⟩) (Kd.R_far (p := ⟨gb232, 2, none⟩) (Kd.R_far (p := ⟨gb232, 1, none⟩) (Kd.R_far (p := ⟨gb232, 0, none⟩) (Kd.R_types HO230.out BK232.out (by decide)) (fun _ hk => hk.2) (.int .i64 t225)) (fun _ hk => hk.2) (.int .i64 t226)) (fun _ hk => hk.2) (.int .i64 t227)) (fun _ hk => hk.2) (.slice Ao41 t228.length co41)) (fun _ h_ => h_.1))) hb) (blk_below (g := gb222) (o := .cells #[.int .i64 t216, .int .i64 t217, .int .i64 t218, .slice Ao30 t219.length co30] 25 (0, 0)) (by (with_reducible repeat (first | refine blk_drewN ?_ _ | refine blk_drew ?_ | refine blk_alloc ?_ _)); refine blk_far ?_ NB222_232.out _; (with_reducible repeat (first | refine blk_drewN ?_ _ | refine blk_drew ?_ | refine blk_alloc ?_ _)); refine blk_far ?_ NB222_232.out _; (with_reducible repeat (first | refine blk_drewN ?_ _ | refine blk_drew ?_ | refine blk_alloc ?_ _)); refine blk_far ?_ NB222_232.out _; (with_reducible repeat (first | refine blk_drewN ?_ _ | refine blk_drew ?_ | refine blk_alloc ?_ _)); refine blk_far ?_ NB222_232.out _; (with_reducible repeat (first | refine blk_drewN ?_ _ | refine blk_drew ?_ | refine blk_alloc ?_ _)); exact BK222.out) hb) (blk_below (g := gb232) (o := .cells #[.int .i64 t225, .int .i64 t226, .int .i64 t227, .slice Ao41 t228.length co41] 25 (0, 0)) (by (with_reducible repeat (first | refine blk_drewN ?_ _ | refine blk_drew ?_ | refine blk_alloc ?_ _)); refine blk_put (cs := #[.int .i64 t225, .int .i64 t226, .int .i64 t227, .slice none 0 0]) ?_ 3 _ rfl; (with_reducible repeat (first | refine blk_drewN ?_ _ | refine blk_drew ?_ | refine blk_alloc ?_ _)); refine blk_put (cs := #[.int .i64 t225, .int .i64 t226, .int .i64 0, .slice none 0 0]) ?_ 2 _ rfl; (with_reducible repeat (first | refine blk_drewN ?_ _ | refine blk_drew ?_ | refine blk_alloc ?_ _)); refine blk_put (cs := #[.int .i64 t225, .int .i64 0, .int .i64 0, .slice none 0 0]) ?_ 1 _ rfl; (with_reducible repeat (first | refine blk_drewN ?_ _ | refine blk_drew ?_ | refine blk_alloc ?_ _)); refine blk_put (cs := #[.int .i64 0, .int .i64 0, .int .i64 0, .slice none 0 0]) ?_ 0 _ rfl; (with_reducible repeat (first | refine blk_drewN ?_ _ | refine blk_drew ?_ | refine blk_alloc ?_ _)); exact BK232.out) hb) (below_step bes hb) ?_; clear HO221; clear HO230; clear BK222; clear BK232; clear HB; intro HO221 HO230 BK222 BK232 HB; (try clear hb)))
  go_ret
  exact ⟨er, bes⟩
 rw [if_pos c7] at H
 have c7b0 : (t233 == 13831680355561635840) = true := beq_iff_eq.mpr c7
 have c7b1 : (t233 != 13831680355561635840) = false := bne_eq_false_iff_eq.mpr c7
 clear c7
 obtain ⟨t234, A80, H⟩ := Option.bind_eq_some_iff.mp H
 (try dsimp -simprocs only at H)
 have A8 := Aside0.mk A80
 clear A80
 obtain rfl := Option.some.inj H
 go_enter Try.func7, Try.ntmps7
 go_wp2_with (first | ((with_reducible refine gate_callee (f := 18) rfl ?_); refine goesL_ (some 4) rfl rfl Try.func18 (by kernel_rfl) rfl #[.int .i64 1, .int .i64 2] rfl ga ?_; (with_reducible refine (mat_New.calls 1 2 t216 t217 t218 t219 _ A1.out).mono ?_); rintro e w9 ⟨v220, rfl, ho0, hb⟩; refine ⟨_, rfl, ?_⟩; refine ax2 (Kd.R_lower ho0 (below_size bel)) (below_step bel hb) ?_; clear HB; intro HO221 HB; (try clear hb); (try clear ho0)) | ((with_reducible refine gate_dst (N := 1) rfl ?_); refine gbox (N := 1) (cs := #[.int .i64 0, .int .i64 0, .int .i64 0, .slice none 0 0]) (t := 25) ?_; intro gb222 hg w10 hbox hb; refine ax5 (Kd.R_below (kr HO221) hb) (below_step bel hb) hbox ((ge hg : w.heap.size ≤ gb222)) ((ge hg : w.heap.size ≤ gb222)) ?_; clear HO221; clear HB; intro HO221 HB BK222 GW222 GE222; clear hb hbox hg; have hcz11_0 := bc BK222 0 rfl; have hcz11_1 := bc BK222 1 rfl; have hcz11_2 := bc BK222 2 rfl; have hcz11_3 := bc BK222 3 rfl; have hfz11_0 := blk_frozen BK222.out 0; have hfz11_1 := blk_frozen BK222.out 1; have hfz11_2 := blk_frozen BK222.out 2; have hfz11_3 := blk_frozen BK222.out 3; obtain ⟨Ao12, co12, eo12⟩ := Kd.R_slice HO221.out; subst eo12) | ((with_reducible refine gate_store (t := 25) (p := 1) rfl ?_); refine store_event (t := 25) (p := 1) (v := ?vo_w13) (w1 := ((((w10.setCell ⟨gb222, 0, none⟩ (.int .i64 t216)).setCell ⟨gb222, 1, none⟩ (.int .i64 t217)).setCell ⟨gb222, 2, none⟩ (.int .i64 t218)).setCell ⟨gb222, 3, none⟩ (.slice Ao12 t219.length co12))) ?hg ?ho ?hn ?hr ?_; (case ho => rfl); (case hg => rfl); (case hn => rfl); (case hr => first | (go_simp; done) | (go_simp; rfl)); intro w13 hw; have n0_ : Aside0 (Kd.R (Kd.int .u64) 30 w13 w.heap.size (fun _ => True) (.slice Ao12 t219.length co12) t219) := ⟨(by rw [hw]; exact (by (with_reducible repeat (first | apply Kd.R_alloc | apply Kd.R_drewN | apply Kd.R_drew)); exact Kd.R_mono (Kd.R_far (p := ⟨gb222, 3, none⟩) (Kd.R_far (p := ⟨gb222, 2, none⟩) (Kd.R_far (p := ⟨gb222, 1, none⟩) (Kd.R_far (p := ⟨gb222, 0, none⟩) (Kd.R_types HO221.out BK222.out (by decide)) (fun _ hk => hk.2) (.int .i64 t216)) (fun _ hk => hk.2) (.int .i64 t217)) (fun _ hk => hk.2) (.int .i64 t218)) (fun _ hk => hk.2) (.slice Ao12 t219.length co12)) (fun _ hk => trivial)))⟩; have n1_ : Aside0 (w13.heap[gb222]? = some (.cells #[.int .i64 t216, .int .i64 t217, .int .i64 t218, .slice Ao12 t219.length co12] 25 (0, 0))) := ⟨(by rw [hw]; exact (by (with_reducible repeat (first | refine blk_drewN ?_ _ | refine blk_drew ?_ | refine blk_alloc ?_ _)); refine blk_put (cs := #[.int .i64 t216, .int .i64 t217, .int .i64 t218, .slice none 0 0]) ?_ 3 _ rfl; (with_reducible repeat (first | refine blk_drewN ?_ _ | refine blk_drew ?_ | refine blk_alloc ?_ _)); refine blk_put (cs := #[.int .i64 t216, .int .i64 t217, .int .i64 0, .slice none 0 0]) ?_ 2 _ rfl; (with_reducible repeat (first | refine blk_drewN ?_ _ | refine blk_drew ?_ | refine blk_alloc ?_ _)); refine blk_put (cs := #[.int .i64 t216, .int .i64 0, .int .i64 0, .slice none 0 0]) ?_ 1 _ rfl; (with_reducible repeat (first | refine blk_drewN ?_ _ | refine blk_drew ?_ | refine blk_alloc ?_ _)); refine blk_put (cs := #[.int .i64 0, .int .i64 0, .int .i64 0, .slice none 0 0]) ?_ 0 _ rfl; (with_reducible repeat (first | refine blk_drewN ?_ _ | refine blk_drew ?_ | refine blk_alloc ?_ _)); exact BK222.out))⟩; have n2_ : Aside0 (Below w.heap.size w w13) := ⟨(by rw [hw]; exact bes)⟩; clear hw; clear HO221; clear BK222; clear HB; have HO221 := n0_; have BK222 := n1_; have HB := n2_; clear n0_ n1_ n2_; have hcz14_0 := bc BK222 0 rfl; have hcz14_1 := bc BK222 1 rfl; have hcz14_2 := bc BK222 2 rfl; have hcz14_3 := bc BK222 3 rfl; have hfz14_0 := blk_frozen BK222.out 0; have hfz14_1 := blk_frozen BK222.out 1; have hfz14_2 := blk_frozen BK222.out 2; have hfz14_3 := blk_frozen BK222.out 3) | ((with_reducible refine gate_callee (f := 14) rfl ?_); refine goesL_ (some 6) rfl rfl Try.func14 (by kernel_rfl) rfl #[.agg #[.int .i64 t216, .int .i64 t217, .int .i64 t218, .slice Ao12 t219.length co12], .int .i64 0, .int .i64 0, .int .u64 4613937818241073152] rfl ga ?_; (with_reducible refine (mat_Matrix_Set.calls t216 t217 t218 (fun k_ => some k_ = (.slice Ao12 t219.length co12 : Value).ownBlock) (.slice Ao12 t219.length co12) t219 0 0 4613937818241073152 t223 w _ ?side1 ?side2 A2.out).mono ?_); (case side1 => repeat (first | (with_reducible first | exact HB.out | apply below_alloc | apply pw_below_drewN | apply below_drew1 | refine below_set ?_ GE222.out) | exact HB.out)); (case side2 => exact Kd.R_tight rfl HO221.out); rintro e w15 ⟨rfl, hy0, hb, hkp⟩; refine ⟨_, rfl, ?_⟩; refine ax3 (Kd.R_reok rfl hy0 (fun k_ e_ => HO221.out.1 k_ e_)) (blk_kept (kb BK222) hkp (fun hs_ => (fun e_ => (Kd.R_ne HO221.out BK222.out (by decide)) e_) hs_)) hb ?_; clear HO221; clear BK222; clear HB; intro HO221 BK222 HB; (try clear hb); (try clear hkp); (try clear hy0); have hcz16_0 := bc BK222 0 rfl; have hcz16_1 := bc BK222 1 rfl; have hcz16_2 := bc BK222 2 rfl; have hcz16_3 := bc BK222 3 rfl; have hfz16_0 := blk_frozen BK222.out 0; have hfz16_1 := blk_frozen BK222.out 1; have hfz16_2 := blk_frozen BK222.out 2; have hfz16_3 := blk_frozen BK222.out 3) | ((with_reducible refine gate_callee (f := 14) rfl ?_); refine goesL_ (some 8) rfl rfl Try.func14 (by kernel_rfl) rfl #[.agg #[.int .i64 t216, .int .i64 t217, .int .i64 t218, .slice Ao12 t219.length co12], .int .i64 0, .int .i64 1, .int .u64 13840687554816376832] rfl ga ?_; (with_reducible refine (mat_Matrix_Set.calls t216 t217 t218 (fun k_ => some k_ = (.slice Ao12 t219.length co12 : Value).ownBlock) (.slice Ao12 t219.length co12) t223 0 1 13840687554816376832 t224 w _ ?side1 ?side2 A3.out).mono ?_); (case side1 => repeat (first | (with_reducible first | exact HB.out | apply below_alloc | apply pw_below_drewN | apply below_drew1 | refine below_set ?_ GE222.out) | exact HB.out)); (case side2 => exact Kd.R_tight rfl HO221.out); rintro e w17 ⟨rfl, hy0, hb, hkp⟩; refine ⟨_, rfl, ?_⟩; refine ax3 (Kd.R_reok rfl hy0 (fun k_ e_ => HO221.out.1 k_ e_)) (blk_kept (kb BK222) hkp (fun hs_ => (fun e_ => (Kd.R_ne HO221.out BK222.out (by decide)) e_) hs_)) hb ?_; clear HO221; clear BK222; clear HB; intro HO221 BK222 HB; (try clear hb); (try clear hkp); (try clear hy0); have hcz18_0 := bc BK222 0 rfl; have hcz18_1 := bc BK222 1 rfl; have hcz18_2 := bc BK222 2 rfl; have hcz18_3 := bc BK222 3 rfl; have hfz18_0 := blk_frozen BK222.out 0; have hfz18_1 := blk_frozen BK222.out 1; have hfz18_2 := blk_frozen BK222.out 2; have hfz18_3 := blk_frozen BK222.out 3) | ((with_reducible refine gate_callee (f := 19) rfl ?_); refine goesL_ (some 11) rfl rfl Try.func19 (by kernel_rfl) rfl #[.agg #[.int .i64 t216, .int .i64 t217, .int .i64 t218, .slice Ao12 t224.length co12]] rfl (by (try simp only [List.map_toArray, List.map_cons, List.map_nil]); first | done | (rw [show t224.length = t219.length from (Kd.R_reads' HO221.out).1.symm] <;> rfl) | rfl | (simp only [List.length_drop, List.length_take]; rfl)) ?_; (with_reducible refine (mat_Matrix_Unit.calls k t216 t217 t218 _ _ t224 t225 t226 t227 t228 t231 _ ?side1 ?side2 A4.out).mono ?_); (case side1 => exact ks HO221); (case side2 => rw [show t224.length = t219.length from (Kd.R_reads' HO221.out).1.symm]; exact (Kd.R_reads' HO221.out).2.1); rintro e w19 ⟨v229, rfl, ho0, hb⟩; refine ⟨_, rfl, ?_⟩; refine ax4 (Kd.R_elder' (kr HO221) (Kd.R_base ho0) hb) (Kd.R_lower (Kd.R_new' ho0 (Kd.R_lt (kr HO221))) (below_size bes)) (bb BK222 hb) (below_step bes hb) ?_; clear HO221; clear BK222; clear HB; intro HO221 HO230 BK222 HB; (try clear hb); (try clear ho0)) | ((with_reducible refine gate_dst (N := 2) rfl ?_); refine gbox (N := 2) (cs := #[.int .i64 0, .int .i64 0, .int .i64 0, .slice none 0 0]) (t := 25) ?_; intro gb232 hg w20 hbox hb; refine ax9 (Kd.R_below (kr HO221) hb) (Kd.R_below (kr HO230) hb) (bb BK222 hb) (below_step bes hb) hbox ((ge hg : w.heap.size ≤ gb232)) ((ge hg : w.heap.size ≤ gb232)) (nl hg BK222) (ng hg BK222) ?_; clear HO221; clear HO230; clear BK222; clear HB; intro HO221 HO230 BK222 HB BK232 GW232 GE232 NB222_232 NB232_222; clear hb hbox hg; have hnb21 := NB232_222.out; have hnc21 := NB222_232.out; have hcz22_0 := bc BK232 0 rfl; have hcz22_1 := bc BK232 1 rfl; have hcz22_2 := bc BK232 2 rfl; have hcz22_3 := bc BK232 3 rfl; have hfz22_0 := blk_frozen BK232.out 0; have hfz22_1 := blk_frozen BK232.out 1; have hfz22_2 := blk_frozen BK232.out 2; have hfz22_3 := blk_frozen BK232.out 3; obtain ⟨Ao23, co23, eo23⟩ := Kd.R_slice HO230.out; subst eo23) | (go_at_call 11; (with_reducible refine (mat_Matrix_At.calls t225 t226 t227 _ _ t228 0 1 t233 _ ?side1 ?side2 A6.out).mono ?_); (case side1 => refine (Kd.R_reads' (e := 30) (base := w.heap.size) (ok := fun k_ => (True ∧ some k_ ≠ (.slice Ao12 t219.length co12 : Value).ownBlock)) (n := t228.length) (c := co23) ?_).2.2; exact (by (with_reducible repeat (first | apply Kd.R_alloc | apply Kd.R_drewN | apply Kd.R_drew)); exact (Kd.R_mono (Kd.R_far (p := ⟨gb232, 3, none⟩) (Kd.R_far (p := ⟨gb232, 2, none⟩) (Kd.R_far (p := ⟨gb232, 1, none⟩) (Kd.R_far (p := ⟨gb232, 0, none⟩) (Kd.R_types HO230.out BK232.out (by decide)) (fun _ hk => hk.2) (.int .i64 t225)) (fun _ hk => hk.2) (.int .i64 t226)) (fun _ hk => hk.2) (.int .i64 t227)) (fun _ hk => hk.2) (.slice Ao23 t228.length co23)) (fun _ h_ => h_.1)))); (case side2 => exact (Kd.R_reads' HO230.out).2.1); rintro e w24 ⟨rfl, hb⟩; refine ax5 (Kd.R_below (by (with_reducible repeat (first | apply Kd.R_alloc | apply Kd.R_drewN | apply Kd.R_drew)); exact (Kd.R_mono (Kd.R_far (p := ⟨gb232, 3, none⟩) (Kd.R_far (p := ⟨gb232, 2, none⟩) (Kd.R_far (p := ⟨gb232, 1, none⟩) (Kd.R_far (p := ⟨gb232, 0, none⟩) (Kd.R_types HO221.out BK232.out (by decide)) (fun _ hk => hk.2) (.int .i64 t225)) (fun _ hk => hk.2) (.int .i64 t226)) (fun _ hk => hk.2) (.int .i64 t227)) (fun _ hk => hk.2) (.slice Ao23 t228.length co23)) (fun _ h_ => h_.1))) hb) (Kd.R_below (by (with_reducible repeat (first | apply Kd.R_alloc | apply Kd.R_drewN | apply Kd.R_drew)); exact (Kd.R_mono (Kd.R_far (p := ⟨gb232, 3, none⟩) (Kd.R_far (p := ⟨gb232, 2, none⟩) (Kd.R_far (p := ⟨gb232, 1, none⟩) (Kd.R_far (p := ⟨gb232, 0, none⟩) (Kd.R_types HO230.out BK232.out (by decide)) (fun _ hk => hk.2) (.int .i64 t225)) (fun _ hk => hk.2) (.int .i64 t226)) (fun _ hk => hk.2) (.int .i64 t227)) (fun _ hk => hk.2) (.slice Ao23 t228.length co23)) (fun _ h_ => h_.1))) hb) (blk_below (g := gb222) (o := .cells #[.int .i64 t216, .int .i64 t217, .int .i64 t218, .slice Ao12 t219.length co12] 25 (0, 0)) (by (with_reducible repeat (first | refine blk_drewN ?_ _ | refine blk_drew ?_ | refine blk_alloc ?_ _)); refine blk_far ?_ NB222_232.out _; (with_reducible repeat (first | refine blk_drewN ?_ _ | refine blk_drew ?_ | refine blk_alloc ?_ _)); refine blk_far ?_ NB222_232.out _; (with_reducible repeat (first | refine blk_drewN ?_ _ | refine blk_drew ?_ | refine blk_alloc ?_ _)); refine blk_far ?_ NB222_232.out _; (with_reducible repeat (first | refine blk_drewN ?_ _ | refine blk_drew ?_ | refine blk_alloc ?_ _)); refine blk_far ?_ NB222_232.out _; (with_reducible repeat (first | refine blk_drewN ?_ _ | refine blk_drew ?_ | refine blk_alloc ?_ _)); exact BK222.out) hb) (blk_below (g := gb232) (o := .cells #[.int .i64 t225, .int .i64 t226, .int .i64 t227, .slice Ao23 t228.length co23] 25 (0, 0)) (by (with_reducible repeat (first | refine blk_drewN ?_ _ | refine blk_drew ?_ | refine blk_alloc ?_ _)); refine blk_put (cs := #[.int .i64 t225, .int .i64 t226, .int .i64 t227, .slice none 0 0]) ?_ 3 _ rfl; (with_reducible repeat (first | refine blk_drewN ?_ _ | refine blk_drew ?_ | refine blk_alloc ?_ _)); refine blk_put (cs := #[.int .i64 t225, .int .i64 t226, .int .i64 0, .slice none 0 0]) ?_ 2 _ rfl; (with_reducible repeat (first | refine blk_drewN ?_ _ | refine blk_drew ?_ | refine blk_alloc ?_ _)); refine blk_put (cs := #[.int .i64 t225, .int .i64 0, .int .i64 0, .slice none 0 0]) ?_ 1 _ rfl; (with_reducible repeat (first | refine blk_drewN ?_ _ | refine blk_drew ?_ | refine blk_alloc ?_ _)); refine blk_put (cs := #[.int .i64 0, .int .i64 0, .int .i64 0, .slice none 0 0]) ?_ 0 _ rfl; (with_reducible repeat (first | refine blk_drewN ?_ _ | refine blk_drew ?_ | refine blk_alloc ?_ _)); exact BK232.out) hb) (below_step bes hb) ?_; clear HO221; clear HO230; clear BK222; clear BK232; clear HB; intro HO221 HO230 BK222 BK232 HB; (try clear hb); have hcz25_0 := bc BK232 0 rfl; have hcz25_1 := bc BK232 1 rfl; have hcz25_2 := bc BK232 2 rfl; have hcz25_3 := bc BK232 3 rfl; have hfz25_0 := blk_frozen BK232.out 0; have hfz25_1 := blk_frozen BK232.out 1; have hfz25_2 := blk_frozen BK232.out 2; have hfz25_3 := blk_frozen BK232.out 3) | (go_at_call 11; (with_reducible refine (mat_Matrix_At.calls t225 t226 t227 _ _ t228 0 0 t234 _ ?side1 ?side2 A8.out).mono ?_); (case side1 => exact ks HO230); (case side2 => exact (Kd.R_reads' HO230.out).2.1); rintro e w26 ⟨rfl, hb⟩; refine ax5 (Kd.R_below (kr HO221) hb) (Kd.R_below (kr HO230) hb) (bb BK222 hb) (bb BK232 hb) (below_step bes hb) ?_; clear HO221; clear HO230; clear BK222; clear BK232; clear HB; intro HO221 HO230 BK222 BK232 HB; (try clear hb)))
 go_ret
 exact ⟨er, bes⟩
end Go.Proofs.Ytenegelkbfmjkaa.F
