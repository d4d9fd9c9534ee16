-- Written by a program of this seat's session (mkprint), out of the translation.
import Derived.Test.YtcappkphcjgeoaaShort
import Derived.Test.YtcappkphcjgeoaaFx0
import Derived.Test.YtcappkphcjgeoaaFx2
import Derived.Test.YtcappkphcjgeoaaFx3
import Derived.Test.YtcappkphcjgeoaaFx4
namespace Go.Proofs.Ytcappkphcjgeoaa.F
open Go.RowKit Go.Proofs.YtcappkphcjgeoaaW.PrintWords Go.Proofs.YtcappkphcjgeoaaW.PrintLast Go.Proofs.YtcappkphcjgeoaaW.PrintMore
attribute [local go_sem] max2_int min2_int max_two min_two max_three min_three max_four min_four   -- for this text's walks alone
set_option linter.unusedVariables false
set_option linter.unusedSimpArgs false

/-! ### more_Sqrt: function 11 -/
def more_Sqrt.j0 : Nat → Int → Bool → Option (Int × Int)
 | 0, _, _ => none
 | k + 1, x0, x15 => if x15 = true then (some (x0, 0)) else ((word_Neg.f x0).bind fun t168 => (if t168 = true then (some (9221120237041090560, 16)) else ((word_Parts.f k x0).bind fun bt169 => ((bits_Len64.f k bt169.1).bind fun t171 => (if (Go.bits .and .i64 (wrap64 (bt169.2 - (wrap64 (127 - t171)))) 1) = 0 then ((wide_Wide_Left.f 0 bt169.1 (wrap64 (127 - t171))).bind fun bt172 => ((wide_Wide_Sqrt.f k bt172.1 bt172.2).bind fun bt174 => ((round_Round.f k false 0 bt174.1 (wrap64 (Int.tdiv (wrap64 (bt169.2 - (wrap64 (127 - t171)))) 2)) (!bt174.2)).bind fun bt176 => (some (bt176.1, bt176.2))))) else ((wide_Wide_Left.f 0 bt169.1 (wrap64 ((wrap64 (127 - t171)) - 1))).bind fun bt178 => ((wide_Wide_Sqrt.f k bt178.1 bt178.2).bind fun bt180 => ((round_Round.f k false 0 bt180.1 (wrap64 (Int.tdiv (wrap64 (bt169.2 - (wrap64 ((wrap64 (127 - t171)) - 1)))) 2)) (!bt180.2)).bind fun bt182 => (some (bt182.1, bt182.2))))))))))
def more_Sqrt.f (k : Nat) (a0 : Int) : Option (Int × Int) := (word_Kind.f k a0).bind fun t165 => (if t165 = 5 then ((word_Signals.f k a0).bind fun t166 => (if t166 = true then (some (9221120237041090560, 16)) else (some (9221120237041090560, 0)))) else ((word_Kind.f k a0).bind fun t167 => (if t167 = 1 then (more_Sqrt.j0 k a0 true) else (more_Sqrt.j0 k a0 (a0 == 9218868437227405312)))))
theorem more_Sqrt.mono_l : ∀ k, (∀ y0 y1, LeO (more_Sqrt.j0 k y0 y1) (more_Sqrt.j0 (k + 1) y0 y1))
 | 0 => fun _ _ r h => by simp [more_Sqrt.j0] at h
 | k + 1 => by
  have ih0 := more_Sqrt.mono_l k
  ·
   intro y0 y1
   unfold more_Sqrt.j0
   repeat' first
   | (with_reducible exact ih0 _ _)
   | (with_reducible exact bits_Len64.mono _ _)
   | (with_reducible exact round_Round.mono _ _ _ _ _ _)
   | (with_reducible exact wide_Wide_Sqrt.mono _ _ _)
   | (with_reducible exact word_Kind.mono _ _)
   | (with_reducible exact word_Parts.mono _ _)
   | (with_reducible exact word_Signals.mono _ _)
   | (with_reducible exact LeO.refl _)
   | (with_reducible exact LeO.none _)
   | (with_reducible refine LeO.ite ?_ ?_)
   | (with_reducible refine LeO.bind ?_ (fun _ => ?_))
   | exact ih0 _ _
   | exact bits_Len64.mono _ _
   | exact round_Round.mono _ _ _ _ _ _
   | exact wide_Wide_Sqrt.mono _ _ _
   | exact word_Kind.mono _ _
   | exact word_Parts.mono _ _
   | exact word_Signals.mono _ _
   | exact LeO.none _
   | refine LeO.ite ?_ ?_
   | refine LeO.bind ?_ (fun _ => ?_)
theorem more_Sqrt.mono : ∀ a0 k, LeO (more_Sqrt.f k a0) (more_Sqrt.f (k + 1) a0) := by
 intro a0 k
 have ih0 := more_Sqrt.mono_l k
 unfold more_Sqrt.f
 repeat' first
   | (with_reducible exact ih0 _ _)
   | (with_reducible exact bits_Len64.mono _ _)
   | (with_reducible exact round_Round.mono _ _ _ _ _ _)
   | (with_reducible exact wide_Wide_Sqrt.mono _ _ _)
   | (with_reducible exact word_Kind.mono _ _)
   | (with_reducible exact word_Parts.mono _ _)
   | (with_reducible exact word_Signals.mono _ _)
   | (with_reducible exact LeO.refl _)
   | (with_reducible exact LeO.none _)
   | (with_reducible refine LeO.ite ?_ ?_)
   | (with_reducible refine LeO.bind ?_ (fun _ => ?_))
   | exact ih0 _ _
   | exact bits_Len64.mono _ _
   | exact round_Round.mono _ _ _ _ _ _
   | exact wide_Wide_Sqrt.mono _ _ _
   | exact word_Kind.mono _ _
   | exact word_Parts.mono _ _
   | exact word_Signals.mono _ _
   | exact LeO.none _
   | refine LeO.ite ?_ ?_
   | refine LeO.bind ?_ (fun _ => ?_)
set_option maxHeartbeats 8000000 in
set_option maxRecDepth 100000 in
theorem more_Sqrt.calls (k : Nat) (a0 : Int) (r1 : Int) (r2 : Int) (w : World) (h : more_Sqrt.f k a0 = some (r1, r2)) :
  Calls Try.prog 11 #[.int .u64 a0] w fun e w' => e = .returned (.tuple #[.int .u64 r1, .int .u8 r2]) ∧ Below w.heap.size w w' := by
 have hu55 := Try.underlying55
 have HB := Aside0.mk (Below.refl w.heap.size w)
 have H : ((word_Kind.f k a0).bind fun t165 => (if t165 = 5 then ((word_Signals.f k a0).bind fun t166 => (if t166 = true then (some (9221120237041090560, 16)) else (some (9221120237041090560, 0)))) else ((word_Kind.f k a0).bind fun t167 => (if t167 = 1 then (more_Sqrt.j0 k a0 true) else (more_Sqrt.j0 k a0 (a0 == 9218868437227405312)))))) = some (r1, r2) := h
 clear h
 obtain ⟨t165, A20, H⟩ := Option.bind_eq_some_iff.mp H
 (try dsimp -simprocs only at H)
 have A2 := Aside0.mk A20
 clear A20
 by_cases c3 : t165 = 5
 ·
  rw [if_pos c3] at H
  have c3b0 : (t165 == 5) = true := beq_iff_eq.mpr c3
  have c3b1 : (t165 != 5) = false := bne_eq_false_iff_eq.mpr c3
  clear c3
  obtain ⟨t166, A40, H⟩ := Option.bind_eq_some_iff.mp H
  (try dsimp -simprocs only at H)
  have A4 := Aside0.mk A40
  clear A40
  by_cases c5 : t166 = true
  ·
   subst c5
   rw [if_pos rfl] at H
   simp only [Option.some.injEq, Prod.mk.injEq] at H
   obtain ⟨rfl, rfl⟩ := H
   go_enter Try.func11, Try.ntmps11
   go_wp2_with (first | ((with_reducible refine gate_callee (f := 26) rfl ?_); refine goesL_ (some 11) rfl rfl Try.func26 (by kernel_rfl) rfl #[.int .u64 a0] rfl ga ?_; (with_reducible refine (word_Kind.calls k a0 t165 _ A2.out).mono ?_); rintro e w' ⟨rfl, ⟨nd, rfl⟩⟩; refine ⟨_, rfl, ?_⟩) | ((with_reducible refine gate_callee (f := 36) rfl ?_); refine goesL_ (some 14) rfl rfl Try.func36 (by kernel_rfl) rfl #[.int .u64 a0] rfl ga ?_; (with_reducible refine (word_Signals.calls k a0 true _ A4.out).mono ?_); rintro e w' ⟨rfl, ⟨nd, rfl⟩⟩; refine ⟨_, rfl, ?_⟩))
   go_ret2
   exact ⟨er, bel⟩
  ·
   replace c5 := Bool.eq_false_iff.mpr c5
   subst c5
   rw [if_neg (show ¬ (false = true) by decide)] at H
   simp only [Option.some.injEq, Prod.mk.injEq] at H
   obtain ⟨rfl, rfl⟩ := H
   go_enter Try.func11, Try.ntmps11
   go_wp2_with (first | ((with_reducible refine gate_callee (f := 26) rfl ?_); refine goesL_ (some 11) rfl rfl Try.func26 (by kernel_rfl) rfl #[.int .u64 a0] rfl ga ?_; (with_reducible refine (word_Kind.calls k a0 t165 _ A2.out).mono ?_); rintro e w' ⟨rfl, ⟨nd, rfl⟩⟩; refine ⟨_, rfl, ?_⟩) | ((with_reducible refine gate_callee (f := 36) rfl ?_); refine goesL_ (some 14) rfl rfl Try.func36 (by kernel_rfl) rfl #[.int .u64 a0] rfl ga ?_; (with_reducible refine (word_Signals.calls k a0 false _ A4.out).mono ?_); rintro e w' ⟨rfl, ⟨nd, rfl⟩⟩; refine ⟨_, rfl, ?_⟩))
   go_ret2
   exact ⟨er, bel⟩
 ·
  rw [if_neg c3] at H
  have c3b0 : (t165 == 5) = false := beq_eq_false_iff_ne.mpr c3
  have c3b1 : (t165 != 5) = true := bne_iff_ne.mpr c3
  have HC6 := Aside0.mk H
  clear H
  go_enter Try.func11, Try.ntmps11
  go_upto_region 5 with (first | ((with_reducible refine gate_callee (f := 26) rfl ?_); refine goesL_ (some 11) rfl rfl Try.func26 (by kernel_rfl) rfl #[.int .u64 a0] rfl ga ?_; (with_reducible refine (word_Kind.calls k a0 t165 _ A2.out).mono ?_); rintro e w' ⟨rfl, ⟨nd, rfl⟩⟩; refine ⟨_, rfl, ?_⟩))
  (try simp only [Act.put, List.setIfInBounds_toArray, List.set_cons_zero, List.set_cons_succ])
  go_cut [15] (fun v15 wc => ∃ (kq : Nat) (x15_5 : Bool), v15 = .bool x15_5 ∧ Aside0 (more_Sqrt.j0 kq a0 x15_5 = some (r1, r2)) ∧ Aside0 (kq ≤ k) ∧ Aside0 (Below w.heap.size w wc))
  case first =>
   have H := HC6.out
   clear HC6
   obtain ⟨t167, A70, H⟩ := Option.bind_eq_some_iff.mp H
   (try dsimp -simprocs only at H)
   have A7 := Aside0.mk A70
   clear A70
   by_cases c8 : t167 = 1
   ·
    rw [if_pos c8] at H
    have c8b0 : (t167 == 1) = true := beq_iff_eq.mpr c8
    have c8b1 : (t167 != 1) = false := bne_eq_false_iff_eq.mpr c8
    clear c8
    (first | rw [c8b0] | (simp only [i64_w, i32_w]; rw [c8b0]) | skip)
    have H' := Aside0.mk H
    clear H
    go_wp2_with (first | ((with_reducible refine gate_callee (f := 26) rfl ?_); refine goesL_ (some 17) rfl rfl Try.func26 (by kernel_rfl) rfl #[.int .u64 a0] rfl ga ?_; (with_reducible refine (word_Kind.calls k a0 t167 _ A7.out).mono ?_); rintro e w' ⟨rfl, ⟨nd, rfl⟩⟩; refine ⟨_, rfl, ?_⟩))
    go_meet
    case rel => exact ⟨_, (true), (by first | rfl | (simp; done) | (simp [*]; done)), H', ⟨by first | omega | exact Nat.le_refl _⟩, ⟨bel⟩⟩
   ·
    rw [if_neg c8] at H
    have c8b0 : (t167 == 1) = false := beq_eq_false_iff_ne.mpr c8
    have c8b1 : (t167 != 1) = true := bne_iff_ne.mpr c8
    (first | rw [c8b0] | (simp only [i64_w, i32_w]; rw [c8b0]) | skip)
    have H' := Aside0.mk H
    clear H
    go_wp2_with (first | ((with_reducible refine gate_callee (f := 26) rfl ?_); refine goesL_ (some 17) rfl rfl Try.func26 (by kernel_rfl) rfl #[.int .u64 a0] rfl ga ?_; (with_reducible refine (word_Kind.calls k a0 t167 _ A7.out).mono ?_); rintro e w' ⟨rfl, ⟨nd, rfl⟩⟩; refine ⟨_, rfl, ?_⟩))
    go_meet
    case rel => exact ⟨_, ((a0 == 9218868437227405312)), (by first | rfl | (simp; done) | (simp [*]; done)), H', ⟨by first | omega | exact Nat.le_refl _⟩, ⟨bel⟩⟩
  case rest =>
   clear HC6
   try clear c1
   try clear c2
   try clear p2
   try clear c3
   try clear c3b0
   try clear c3b1
   try clear c5
   try clear c8
   try clear c8b0
   try clear c8b1
   obtain ⟨kq, x15_5, rfl, HA, HJ5, HB⟩ := hcut
   cases kq with
   | zero => exact absurd HA.out (by simp [more_Sqrt.j0])
   | succ kj5 =>
    have H := HA.out
    clear HA
    simp only [more_Sqrt.j0] at H
    by_cases c9 : x15_5 = true
    ·
     subst c9
     rw [if_pos rfl] at H
     simp only [Option.some.injEq, Prod.mk.injEq] at H
     obtain ⟨rfl, rfl⟩ := H
     go_wp2
     go_ret2
     exact ⟨er, bel⟩
    ·
     replace c9 := Bool.eq_false_iff.mpr c9
     subst c9
     rw [if_neg (show ¬ (false = true) by decide)] at H
     obtain ⟨t168, A100, H⟩ := Option.bind_eq_some_iff.mp H
     (try dsimp -simprocs only at H)
     have A10 := Aside0.mk A100
     clear A100
     by_cases c11 : t168 = true
     ·
      subst c11
      rw [if_pos rfl] at H
      simp only [Option.some.injEq, Prod.mk.injEq] at H
      obtain ⟨rfl, rfl⟩ := H
      go_wp2_with (first | ((with_reducible refine gate_callee (f := 21) rfl ?_); refine goesL_ (some 26) rfl rfl Try.func21 (by kernel_rfl) rfl #[.int .u64 a0] rfl ga ?_; (with_reducible refine (word_Neg.calls a0 true _ A10.out).mono ?_); rintro e w' ⟨rfl, ⟨nd, rfl⟩⟩; refine ⟨_, rfl, ?_⟩))
      go_ret2
      exact ⟨er, bel⟩
     ·
      replace c11 := Bool.eq_false_iff.mpr c11
      subst c11
      rw [if_neg (show ¬ (false = true) by decide)] at H
      obtain ⟨⟨t169, t170⟩, A120, H⟩ := Option.bind_eq_some_iff.mp H
      (try dsimp -simprocs only at H)
      have A12 := Aside0.mk A120
      clear A120
      obtain ⟨t171, A130, H⟩ := Option.bind_eq_some_iff.mp H
      (try dsimp -simprocs only at H)
      have A13 := Aside0.mk A130
      clear A130
      by_cases c14 : (Go.bits .and .i64 (wrap64 (t170 - (wrap64 (127 - t171)))) 1) = 0
      ·
       rw [if_pos c14] at H
       have c14b0 : ((Go.bits .and .i64 (wrap64 (t170 - (wrap64 (127 - t171)))) 1) == 0) = true := beq_iff_eq.mpr c14
       have c14b1 : ((Go.bits .and .i64 (wrap64 (t170 - (wrap64 (127 - t171)))) 1) != 0) = false := bne_eq_false_iff_eq.mpr c14
       clear c14
       obtain ⟨⟨t172, t173⟩, A150, H⟩ := Option.bind_eq_some_iff.mp H
       (try dsimp -simprocs only at H)
       have A15 := Aside0.mk A150
       clear A150
       obtain ⟨⟨t174, t175⟩, A160, H⟩ := Option.bind_eq_some_iff.mp H
       (try dsimp -simprocs only at H)
       have A16 := Aside0.mk A160
       clear A160
       obtain ⟨⟨t176, t177⟩, A170, H⟩ := Option.bind_eq_some_iff.mp H
       (try dsimp -simprocs only at H)
       have A17 := Aside0.mk A170
       clear A170
       simp only [Option.some.injEq, Prod.mk.injEq] at H
       obtain ⟨rfl, rfl⟩ := H
       go_wp2_with (first | ((with_reducible refine gate_callee (f := 21) rfl ?_); refine goesL_ (some 26) rfl rfl Try.func21 (by kernel_rfl) rfl #[.int .u64 a0] rfl ga ?_; (with_reducible refine (word_Neg.calls a0 false _ A10.out).mono ?_); rintro e w' ⟨rfl, ⟨nd, rfl⟩⟩; refine ⟨_, rfl, ?_⟩) | ((with_reducible refine gate_callee (f := 37) rfl ?_); refine goesL_ (some 29) rfl rfl Try.func37 (by kernel_rfl) rfl #[.int .u64 a0] rfl ga ?_; (with_reducible refine (word_Parts.calls kj5 a0 t169 t170 _ A12.out).mono ?_); rintro e w' ⟨rfl, ⟨nd, rfl⟩⟩; refine ⟨_, rfl, ?_⟩) | ((with_reducible refine gate_callee (f := 38) rfl ?_); refine goesL_ (some 33) rfl rfl Try.func38 (by kernel_rfl) rfl #[.int .u64 t169] rfl ga ?_; (with_reducible refine (bits_Len64.calls kj5 t169 t171 _ A13.out).mono ?_); rintro e w' ⟨rfl, ⟨nd, rfl⟩⟩; refine ⟨_, rfl, ?_⟩) | ((with_reducible refine gate_callee (f := 39) rfl ?_); refine goesL_ (some 46) rfl rfl Try.func39 (by kernel_rfl) rfl #[.agg #[.int .u64 0, .int .u64 t169], .int .i64 (wrap64 (127 - t171))] rfl ga ?_; (with_reducible refine (wide_Wide_Left.calls 0 t169 (wrap64 (127 - t171)) t172 t173 _ A15.out).mono ?_); rintro e w18 ⟨rfl, hb⟩; refine ⟨_, rfl, ?_⟩; have n0_ := Aside0.mk (below_step bel hb); clear HB; have HB := n0_; clear n0_; (try clear hb)) | ((with_reducible refine gate_callee (f := 40) rfl ?_); refine goesL_ (some 47) rfl rfl Try.func40 (by kernel_rfl) rfl #[.agg #[.int .u64 t172, .int .u64 t173]] rfl ga ?_; (with_reducible refine (wide_Wide_Sqrt.calls kj5 t172 t173 t174 t175 _ A16.out).mono ?_); rintro e w19 ⟨rfl, hb⟩; refine ⟨_, rfl, ?_⟩; have n0_ := Aside0.mk (below_step bel hb); clear HB; have HB := n0_; clear n0_; (try clear hb)) | ((with_reducible refine gate_callee (f := 41) rfl ?_); refine goesL_ (some 58) rfl rfl Try.func41 (by kernel_rfl) rfl #[.bool false, .agg #[.int .u64 0, .int .u64 t174], .int .i64 (wrap64 (Int.tdiv (wrap64 (t170 - (wrap64 (127 - t171)))) 2)), .bool (!t175)] rfl ga ?_; (with_reducible refine (round_Round.calls kj5 false 0 t174 (wrap64 (Int.tdiv (wrap64 (t170 - (wrap64 (127 - t171)))) 2)) (!t175) t176 t177 _ A17.out).mono ?_); rintro e w20 ⟨rfl, hb⟩; refine ⟨_, rfl, ?_⟩; have n0_ := Aside0.mk (below_step bel hb); clear HB; have HB := n0_; clear n0_; (try clear hb)))
       go_ret2
       exact ⟨er, bel⟩
      ·
       rw [if_neg c14] at H
       have c14b0 : ((Go.bits .and .i64 (wrap64 (t170 - (wrap64 (127 - t171)))) 1) == 0) = false := beq_eq_false_iff_ne.mpr c14
       have c14b1 : ((Go.bits .and .i64 (wrap64 (t170 - (wrap64 (127 - t171)))) 1) != 0) = true := bne_iff_ne.mpr c14
       obtain ⟨⟨t178, t179⟩, A210, H⟩ := Option.bind_eq_some_iff.mp H
       (try dsimp -simprocs only at H)
       have A21 := Aside0.mk A210
       clear A210
       obtain ⟨⟨t180, t181⟩, A220, H⟩ := Option.bind_eq_some_iff.mp H
       (try dsimp -simprocs only at H)
       have A22 := Aside0.mk A220
       clear A220
       obtain ⟨⟨t182, t183⟩, A230, H⟩ := Option.bind_eq_some_iff.mp H
       (try dsimp -simprocs only at H)
       have A23 := Aside0.mk A230
       clear A230
       simp only [Option.some.injEq, Prod.mk.injEq] at H
       obtain ⟨rfl, rfl⟩ := H
       go_wp2_with (first | ((with_reducible refine gate_callee (f := 21) rfl ?_); refine goesL_ (some 26) rfl rfl Try.func21 (by kernel_rfl) rfl #[.int .u64 a0] rfl ga ?_; (with_reducible refine (word_Neg.calls a0 false _ A10.out).mono ?_); rintro e w' ⟨rfl, ⟨nd, rfl⟩⟩; refine ⟨_, rfl, ?_⟩) | ((with_reducible refine gate_callee (f := 37) rfl ?_); refine goesL_ (some 29) rfl rfl Try.func37 (by kernel_rfl) rfl #[.int .u64 a0] rfl ga ?_; (with_reducible refine (word_Parts.calls kj5 a0 t169 t170 _ A12.out).mono ?_); rintro e w' ⟨rfl, ⟨nd, rfl⟩⟩; refine ⟨_, rfl, ?_⟩) | ((with_reducible refine gate_callee (f := 38) rfl ?_); refine goesL_ (some 33) rfl rfl Try.func38 (by kernel_rfl) rfl #[.int .u64 t169] rfl ga ?_; (with_reducible refine (bits_Len64.calls kj5 t169 t171 _ A13.out).mono ?_); rintro e w' ⟨rfl, ⟨nd, rfl⟩⟩; refine ⟨_, rfl, ?_⟩) | ((with_reducible refine gate_callee (f := 39) rfl ?_); refine goesL_ (some 46) rfl rfl Try.func39 (by kernel_rfl) rfl #[.agg #[.int .u64 0, .int .u64 t169], .int .i64 (wrap64 ((wrap64 (127 - t171)) - 1))] rfl ga ?_; (with_reducible refine (wide_Wide_Left.calls 0 t169 (wrap64 ((wrap64 (127 - t171)) - 1)) t178 t179 _ A21.out).mono ?_); rintro e w24 ⟨rfl, hb⟩; refine ⟨_, rfl, ?_⟩; have n0_ := Aside0.mk (below_step bel hb); clear HB; have HB := n0_; clear n0_; (try clear hb)) | ((with_reducible refine gate_callee (f := 40) rfl ?_); refine goesL_ (some 47) rfl rfl Try.func40 (by kernel_rfl) rfl #[.agg #[.int .u64 t178, .int .u64 t179]] rfl ga ?_; (with_reducible refine (wide_Wide_Sqrt.calls kj5 t178 t179 t180 t181 _ A22.out).mono ?_); rintro e w25 ⟨rfl, hb⟩; refine ⟨_, rfl, ?_⟩; have n0_ := Aside0.mk (below_step bel hb); clear HB; have HB := n0_; clear n0_; (try clear hb)) | ((with_reducible refine gate_callee (f := 41) rfl ?_); refine goesL_ (some 58) rfl rfl Try.func41 (by kernel_rfl) rfl #[.bool false, .agg #[.int .u64 0, .int .u64 t180], .int .i64 (wrap64 (Int.tdiv (wrap64 (t170 - (wrap64 ((wrap64 (127 - t171)) - 1)))) 2)), .bool (!t181)] rfl ga ?_; (with_reducible refine (round_Round.calls kj5 false 0 t180 (wrap64 (Int.tdiv (wrap64 (t170 - (wrap64 ((wrap64 (127 - t171)) - 1)))) 2)) (!t181) t182 t183 _ A23.out).mono ?_); rintro e w26 ⟨rfl, hb⟩; refine ⟨_, rfl, ?_⟩; have n0_ := Aside0.mk (below_step bel hb); clear HB; have HB := n0_; clear n0_; (try clear hb)))
       go_ret2
       exact ⟨er, bel⟩

/-! ### more_Scale: function 13 -/
def more_Scale.j0 : Nat → Int → Int → Bool → Option (Int × Int)
 | 0, _, _, _ => none
 | k + 1, x0, x1, x14 => if x14 = true then (some (x0, 0)) else ((word_Parts.f k x0).bind fun bt186 => ((word_Neg.f x0).bind fun t188 => ((round_Round.f k t188 0 bt186.1 (wrap64 (bt186.2 + (mx (-10000) (mn x1 10000)))) false).bind fun bt189 => (some (bt189.1, bt189.2)))))
def more_Scale.f (k : Nat) (a0 : Int) (a1 : Int) : Option (Int × Int) := (word_Kind.f k a0).bind fun t184 => (if t184 = 5 then ((word_Signals.f k a0).bind fun t185 => (if t185 = true then (some (9221120237041090560, 16)) else (some (9221120237041090560, 0)))) else (if t184 = 4 then (more_Scale.j0 k a0 a1 (t184 == 4)) else (more_Scale.j0 k a0 a1 (t184 == 1))))
theorem more_Scale.mono_l : ∀ k, (∀ y0 y1 y2, LeO (more_Scale.j0 k y0 y1 y2) (more_Scale.j0 (k + 1) y0 y1 y2))
 | 0 => fun _ _ _ r h => by simp [more_Scale.j0] at h
 | k + 1 => by
  have ih0 := more_Scale.mono_l k
  ·
   intro y0 y1 y2
   unfold more_Scale.j0
   repeat' first
   | (with_reducible exact ih0 _ _ _)
   | (with_reducible exact round_Round.mono _ _ _ _ _ _)
   | (with_reducible exact word_Kind.mono _ _)
   | (with_reducible exact word_Parts.mono _ _)
   | (with_reducible exact word_Signals.mono _ _)
   | (with_reducible exact LeO.refl _)
   | (with_reducible exact LeO.none _)
   | (with_reducible refine LeO.ite ?_ ?_)
   | (with_reducible refine LeO.bind ?_ (fun _ => ?_))
   | exact ih0 _ _ _
   | exact round_Round.mono _ _ _ _ _ _
   | exact word_Kind.mono _ _
   | exact word_Parts.mono _ _
   | exact word_Signals.mono _ _
   | exact LeO.none _
   | refine LeO.ite ?_ ?_
   | refine LeO.bind ?_ (fun _ => ?_)
theorem more_Scale.mono : ∀ a0 a1 k, LeO (more_Scale.f k a0 a1) (more_Scale.f (k + 1) a0 a1) := by
 intro a0 a1 k
 have ih0 := more_Scale.mono_l k
 unfold more_Scale.f
 repeat' first
   | (with_reducible exact ih0 _ _ _)
   | (with_reducible exact round_Round.mono _ _ _ _ _ _)
   | (with_reducible exact word_Kind.mono _ _)
   | (with_reducible exact word_Parts.mono _ _)
   | (with_reducible exact word_Signals.mono _ _)
   | (with_reducible exact LeO.refl _)
   | (with_reducible exact LeO.none _)
   | (with_reducible refine LeO.ite ?_ ?_)
   | (with_reducible refine LeO.bind ?_ (fun _ => ?_))
   | exact ih0 _ _ _
   | exact round_Round.mono _ _ _ _ _ _
   | exact word_Kind.mono _ _
   | exact word_Parts.mono _ _
   | exact word_Signals.mono _ _
   | exact LeO.none _
   | refine LeO.ite ?_ ?_
   | refine LeO.bind ?_ (fun _ => ?_)
set_option maxHeartbeats 8000000 in
set_option maxRecDepth 100000 in
theorem more_Scale.calls (k : Nat) (a0 : Int) (a1 : Int) (r1 : Int) (r2 : Int) (w : World) (h : more_Scale.f k a0 a1 = some (r1, r2)) :
  Calls Try.prog 13 #[.int .u64 a0, .int .i64 a1] w fun e w' => e = .returned (.tuple #[.int .u64 r1, .int .u8 r2]) ∧ Below w.heap.size w w' := by
 have hu55 := Try.underlying55
 have HB := Aside0.mk (Below.refl w.heap.size w)
 have H : ((word_Kind.f k a0).bind fun t184 => (if t184 = 5 then ((word_Signals.f k a0).bind fun t185 => (if t185 = true then (some (9221120237041090560, 16)) else (some (9221120237041090560, 0)))) else (if t184 = 4 then (more_Scale.j0 k a0 a1 (t184 == 4)) else (more_Scale.j0 k a0 a1 (t184 == 1))))) = some (r1, r2) := h
 clear h
 obtain ⟨t184, A30, H⟩ := Option.bind_eq_some_iff.mp H
 (try dsimp -simprocs only at H)
 have A3 := Aside0.mk A30
 clear A30
 by_cases c4 : t184 = 5
 ·
  rw [if_pos c4] at H
  have c4b0 : (t184 == 5) = true := beq_iff_eq.mpr c4
  have c4b1 : (t184 != 5) = false := bne_eq_false_iff_eq.mpr c4
  clear c4
  obtain ⟨t185, A50, H⟩ := Option.bind_eq_some_iff.mp H
  (try dsimp -simprocs only at H)
  have A5 := Aside0.mk A50
  clear A50
  by_cases c6 : t185 = true
  ·
   subst c6
   rw [if_pos rfl] at H
   simp only [Option.some.injEq, Prod.mk.injEq] at H
   obtain ⟨rfl, rfl⟩ := H
   go_enter Try.func13, Try.ntmps13
   go_wp2_with (first | ((with_reducible refine gate_callee (f := 26) rfl ?_); refine goesL_ (some 9) rfl rfl Try.func26 (by kernel_rfl) rfl #[.int .u64 a0] rfl ga ?_; (with_reducible refine (word_Kind.calls k a0 t184 _ A3.out).mono ?_); rintro e w' ⟨rfl, ⟨nd, rfl⟩⟩; refine ⟨_, rfl, ?_⟩) | ((with_reducible refine gate_callee (f := 36) rfl ?_); refine goesL_ (some 13) rfl rfl Try.func36 (by kernel_rfl) rfl #[.int .u64 a0] rfl ga ?_; (with_reducible refine (word_Signals.calls k a0 true _ A5.out).mono ?_); rintro e w' ⟨rfl, ⟨nd, rfl⟩⟩; refine ⟨_, rfl, ?_⟩))
   go_ret2
   exact ⟨er, bel⟩
  ·
   replace c6 := Bool.eq_false_iff.mpr c6
   subst c6
   rw [if_neg (show ¬ (false = true) by decide)] at H
   simp only [Option.some.injEq, Prod.mk.injEq] at H
   obtain ⟨rfl, rfl⟩ := H
   go_enter Try.func13, Try.ntmps13
   go_wp2_with (first | ((with_reducible refine gate_callee (f := 26) rfl ?_); refine goesL_ (some 9) rfl rfl Try.func26 (by kernel_rfl) rfl #[.int .u64 a0] rfl ga ?_; (with_reducible refine (word_Kind.calls k a0 t184 _ A3.out).mono ?_); rintro e w' ⟨rfl, ⟨nd, rfl⟩⟩; refine ⟨_, rfl, ?_⟩) | ((with_reducible refine gate_callee (f := 36) rfl ?_); refine goesL_ (some 13) rfl rfl Try.func36 (by kernel_rfl) rfl #[.int .u64 a0] rfl ga ?_; (with_reducible refine (word_Signals.calls k a0 false _ A5.out).mono ?_); rintro e w' ⟨rfl, ⟨nd, rfl⟩⟩; refine ⟨_, rfl, ?_⟩))
   go_ret2
   exact ⟨er, bel⟩
 ·
  rw [if_neg c4] at H
  have c4b0 : (t184 == 5) = false := beq_eq_false_iff_ne.mpr c4
  have c4b1 : (t184 != 5) = true := bne_iff_ne.mpr c4
  have HC7 := Aside0.mk H
  clear H
  go_enter Try.func13, Try.ntmps13
  go_upto_if 14 with (first | ((with_reducible refine gate_callee (f := 26) rfl ?_); refine goesL_ (some 9) rfl rfl Try.func26 (by kernel_rfl) rfl #[.int .u64 a0] rfl ga ?_; (with_reducible refine (word_Kind.calls k a0 t184 _ A3.out).mono ?_); rintro e w' ⟨rfl, ⟨nd, rfl⟩⟩; refine ⟨_, rfl, ?_⟩))
  (try simp only [Act.put, List.setIfInBounds_toArray, List.set_cons_zero, List.set_cons_succ])
  go_cut [14] (fun v14 wc => ∃ (kq : Nat) (x14_6 : Bool), v14 = .bool x14_6 ∧ Aside0 (more_Scale.j0 kq a0 a1 x14_6 = some (r1, r2)) ∧ Aside0 (kq ≤ k) ∧ Aside0 (Below w.heap.size w wc))
  case first =>
   have H := HC7.out
   clear HC7
   by_cases c8 : t184 = 4
   ·
    rw [if_pos c8] at H
    have c8b0 : (t184 == 4) = true := beq_iff_eq.mpr c8
    have c8b1 : (t184 != 4) = false := bne_eq_false_iff_eq.mpr c8
    clear c8
    (first | rw [c8b0] | (simp only [i64_w, i32_w]; rw [c8b0]) | skip)
    have H' := Aside0.mk H
    clear H
    go_wp2
    go_meet
    case rel => exact ⟨_, ((t184 == 4)), (by first | rfl | (simp; done) | (simp [*]; done)), H', ⟨by first | omega | exact Nat.le_refl _⟩, ⟨bel⟩⟩
   ·
    rw [if_neg c8] at H
    have c8b0 : (t184 == 4) = false := beq_eq_false_iff_ne.mpr c8
    have c8b1 : (t184 != 4) = true := bne_iff_ne.mpr c8
    (first | rw [c8b0] | (simp only [i64_w, i32_w]; rw [c8b0]) | skip)
    have H' := Aside0.mk H
    clear H
    go_wp2
    go_meet
    case rel => exact ⟨_, ((t184 == 1)), (by first | rfl | (simp; done) | (simp [*]; done)), H', ⟨by first | omega | exact Nat.le_refl _⟩, ⟨bel⟩⟩
  case rest =>
   clear HC7
   try clear c1
   try clear c2
   try clear p2
   try clear c3
   try clear c4
   try clear c4b0
   try clear c4b1
   try clear c6
   try clear c8
   try clear c8b0
   try clear c8b1
   obtain ⟨kq, x14_6, rfl, HA, HJ6, HB⟩ := hcut
   cases kq with
   | zero => exact absurd HA.out (by simp [more_Scale.j0])
   | succ kj6 =>
    have H := HA.out
    clear HA
    simp only [more_Scale.j0] at H
    by_cases c9 : x14_6 = true
    ·
     subst c9
     rw [if_pos rfl] at H
     simp only [Option.some.injEq, Prod.mk.injEq] at H
     obtain ⟨rfl, rfl⟩ := H
     go_wp2
     go_ret2
     exact ⟨er, bel⟩
    ·
     replace c9 := Bool.eq_false_iff.mpr c9
     subst c9
     rw [if_neg (show ¬ (false = true) by decide)] at H
     obtain ⟨⟨t186, t187⟩, A100, H⟩ := Option.bind_eq_some_iff.mp H
     (try dsimp -simprocs only at H)
     have A10 := Aside0.mk A100
     clear A100
     obtain ⟨t188, A110, H⟩ := Option.bind_eq_some_iff.mp H
     (try dsimp -simprocs only at H)
     have A11 := Aside0.mk A110
     clear A110
     obtain ⟨ji12, hji12⟩ : ∃ j_ : Int, (mn a1 10000) = j_ := ⟨_, rfl⟩
     replace H : ((round_Round.f kj6 t188 0 t186 (wrap64 (t187 + (mx (-10000) (ji12)))) false).bind fun bt189 => (some (bt189.1, bt189.2))) = some (r1, r2) := by first | (rw [hji12] at H; exact H) | (simp only [hji12] at H ⊢; exact H)
     (try rw [hji12] at A10)
     (try rw [hji12] at A11)
     have hji12_ : (if 10000 < a1 then 10000 else a1) = ji12 := hji12
     obtain ⟨ji13, hji13⟩ : ∃ j_ : Int, (mx (-10000) (ji12)) = j_ := ⟨_, rfl⟩
     replace H : ((round_Round.f kj6 t188 0 t186 (wrap64 (t187 + (ji13))) false).bind fun bt189 => (some (bt189.1, bt189.2))) = some (r1, r2) := by first | (rw [hji13] at H; exact H) | (simp only [hji13] at H ⊢; exact H)
     (try rw [hji13] at A10)
     (try rw [hji13] at A11)
     have hji13_ : (if (-10000) < (ji12) then (ji12) else (-10000)) = ji13 := hji13
     obtain ⟨⟨t189, t190⟩, A140, H⟩ := Option.bind_eq_some_iff.mp H
     (try dsimp -simprocs only at H)
     have A14 := Aside0.mk A140
     clear A140
     simp only [Option.some.injEq, Prod.mk.injEq] at H
     obtain ⟨rfl, rfl⟩ := H
     go_wp2_with (first | ((with_reducible refine gate_callee (f := 37) rfl ?_); refine goesL_ (some 20) rfl rfl Try.func37 (by kernel_rfl) rfl #[.int .u64 a0] rfl ga ?_; (with_reducible refine (word_Parts.calls kj6 a0 t186 t187 _ A10.out).mono ?_); rintro e w' ⟨rfl, ⟨nd, rfl⟩⟩; refine ⟨_, rfl, ?_⟩) | ((with_reducible refine gate_callee (f := 21) rfl ?_); refine goesL_ (some 24) rfl rfl Try.func21 (by kernel_rfl) rfl #[.int .u64 a0] rfl ga ?_; (with_reducible refine (word_Neg.calls a0 t188 _ A11.out).mono ?_); rintro e w' ⟨rfl, ⟨nd, rfl⟩⟩; refine ⟨_, rfl, ?_⟩) | ((with_reducible refine gate_callee (f := 41) rfl ?_); refine goesL_ (some 32) rfl rfl Try.func41 (by kernel_rfl) rfl #[.bool t188, .agg #[.int .u64 0, .int .u64 t186], .int .i64 (wrap64 (t187 + (ji13))), .bool false] rfl (by (try simp only [List.map_toArray, List.map_cons, List.map_nil]); first | done | (simp only [hji13]; rfl) | rfl | (simp only [List.length_drop, List.length_take]; rfl)) ?_; (with_reducible refine (round_Round.calls kj6 t188 0 t186 (wrap64 (t187 + (ji13))) false t189 t190 _ A14.out).mono ?_); rintro e w15 ⟨rfl, hb⟩; refine ⟨_, rfl, ?_⟩; have n0_ := Aside0.mk (below_step bel hb); clear HB; have HB := n0_; clear n0_; (try clear hb)))
     go_ret2
     exact ⟨by first | rfl | (simp [errW_none, errW_some] <;> rfl) | (simp only [← hji12, ← hji13]; first | rfl | (simp [errW_none, errW_some] <;> rfl)) | (simp [*, errW_none, errW_some] <;> rfl), bel⟩

/-! ### word_Finite: function 16 -/
def word_Finite.f (a0 : Int) : Option (Bool) := (word_Exp.f a0).bind fun t191 => (some (decide (t191 < 2047)))
set_option maxHeartbeats 8000000 in
set_option maxRecDepth 100000 in
theorem word_Finite.calls (a0 : Int) (r : Bool) (w : World) (h : word_Finite.f a0 = some r) :
  Calls Try.prog 16 #[.int .u64 a0] w fun e w' => e = .returned (.bool r) ∧ Drawn0 w w' := by
 have H : ((word_Exp.f a0).bind fun t191 => (some (decide (t191 < 2047)))) = some r := h
 clear h
 obtain ⟨t191, A20, H⟩ := Option.bind_eq_some_iff.mp H
 (try dsimp -simprocs only at H)
 have A2 := Aside0.mk A20
 clear A20
 obtain rfl := Option.some.inj H
 go_enter Try.func16, Try.ntmps16
 go_wp2_with (first | ((with_reducible refine gate_callee (f := 32) rfl ?_); refine goesL_ (some 4) rfl rfl Try.func32 (by kernel_rfl) rfl #[.int .u64 a0] rfl ga ?_; (with_reducible refine (word_Exp.calls a0 t191 _ A2.out).mono ?_); rintro e w' ⟨rfl, ⟨nd, rfl⟩⟩; refine ⟨_, rfl, ?_⟩))
 go_ret
 exact ⟨by first | rfl | (simp; done) | (simp [*]; done), by repeat (first | exact Drawn0.refl _ | apply Drawn0.step)⟩

/-! ### more_ToInt: function 15 -/
mutual
def more_ToInt.j0 : Nat → Int → Int → Int → Option (Int × Int)
 | 0, _, _, _ => none
 | k + 1, x0, x4, x6 => (word_Neg.f x0).bind fun t200 => (if t200 = true then (more_ToInt.j1 k x0 x4 x6 false) else (more_ToInt.j1 k x0 x4 x6 (decide (x4 < 9223372036854775808))))
def more_ToInt.j1 : Nat → Int → Int → Int → Bool → Option (Int × Int)
 | 0, _, _, _, _ => none
 | k + 1, x0, x4, x6, x42 => if x42 = true then (some (wrap64 (x4), x6)) else ((word_Neg.f x0).bind fun t201 => (if t201 = true then (if x4 ≤ 9223372036854775808 then (some (wrap64 (-(wrap64 (x4))), x6)) else (some (0, 16))) else (some (0, 16))))
end
def more_ToInt.f (k : Nat) (a0 : Int) : Option (Int × Int) := (word_Finite.f a0).bind fun t192 => (if t192 = true then ((word_Parts.f k a0).bind fun bt193 => (if bt193.2 < 0 then ((wide_Wide_Right.f k 0 bt193.1 (wrap64 (-bt193.2))).bind fun bt195 => (if bt195.2.2 = true then (more_ToInt.j0 k a0 bt195.2.1 1) else (more_ToInt.j0 k a0 bt195.2.1 0))) else (if bt193.1 = 0 then (if 0 ≤ bt193.2 then (more_ToInt.j0 k a0 (shl .u64 bt193.1 bt193.2) 0) else (none)) else ((bits_Len64.f k bt193.1).bind fun t199 => (if (wrap64 (bt193.2 + t199)) > 64 then (some (0, 16)) else (if 0 ≤ bt193.2 then (more_ToInt.j0 k a0 (shl .u64 bt193.1 bt193.2) 0) else (none))))))) else (some (0, 16)))
theorem more_ToInt.mono_l : ∀ k, (∀ y0 y1 y2, LeO (more_ToInt.j0 k y0 y1 y2) (more_ToInt.j0 (k + 1) y0 y1 y2)) ∧ (∀ y0 y1 y2 y3, LeO (more_ToInt.j1 k y0 y1 y2 y3) (more_ToInt.j1 (k + 1) y0 y1 y2 y3))
 | 0 => ⟨fun _ _ _ r h => by simp [more_ToInt.j0] at h, fun _ _ _ _ r h => by simp [more_ToInt.j1] at h⟩
 | k + 1 => by
  obtain ⟨ih0, ih1⟩ := more_ToInt.mono_l k
  refine ⟨?_, ?_⟩
  ·
   intro y0 y1 y2
   unfold more_ToInt.j0
   repeat' first
   | (with_reducible exact ih0 _ _ _)
   | (with_reducible exact ih1 _ _ _ _)
   | (with_reducible exact bits_Len64.mono _ _)
   | (with_reducible exact wide_Wide_Right.mono _ _ _ _)
   | (with_reducible exact word_Parts.mono _ _)
   | (with_reducible exact LeO.refl _)
   | (with_reducible exact LeO.none _)
   | (with_reducible refine LeO.ite ?_ ?_)
   | (with_reducible refine LeO.bind ?_ (fun _ => ?_))
   | exact ih0 _ _ _
   | exact ih1 _ _ _ _
   | exact bits_Len64.mono _ _
   | exact wide_Wide_Right.mono _ _ _ _
   | exact word_Parts.mono _ _
   | exact LeO.none _
   | refine LeO.ite ?_ ?_
   | refine LeO.bind ?_ (fun _ => ?_)
  ·
   intro y0 y1 y2 y3
   unfold more_ToInt.j1
   repeat' first
   | (with_reducible exact ih0 _ _ _)
   | (with_reducible exact ih1 _ _ _ _)
   | (with_reducible exact bits_Len64.mono _ _)
   | (with_reducible exact wide_Wide_Right.mono _ _ _ _)
   | (with_reducible exact word_Parts.mono _ _)
   | (with_reducible exact LeO.refl _)
   | (with_reducible exact LeO.none _)
   | (with_reducible refine LeO.ite ?_ ?_)
   | (with_reducible refine LeO.bind ?_ (fun _ => ?_))
   | exact ih0 _ _ _
   | exact ih1 _ _ _ _
   | exact bits_Len64.mono _ _
   | exact wide_Wide_Right.mono _ _ _ _
   | exact word_Parts.mono _ _
   | exact LeO.none _
   | refine LeO.ite ?_ ?_
   | refine LeO.bind ?_ (fun _ => ?_)
theorem more_ToInt.mono : ∀ a0 k, LeO (more_ToInt.f k a0) (more_ToInt.f (k + 1) a0) := by
 intro a0 k
 obtain ⟨ih0, ih1⟩ := more_ToInt.mono_l k
 unfold more_ToInt.f
 repeat' first
   | (with_reducible exact ih0 _ _ _)
   | (with_reducible exact ih1 _ _ _ _)
   | (with_reducible exact bits_Len64.mono _ _)
   | (with_reducible exact wide_Wide_Right.mono _ _ _ _)
   | (with_reducible exact word_Parts.mono _ _)
   | (with_reducible exact LeO.refl _)
   | (with_reducible exact LeO.none _)
   | (with_reducible refine LeO.ite ?_ ?_)
   | (with_reducible refine LeO.bind ?_ (fun _ => ?_))
   | exact ih0 _ _ _
   | exact ih1 _ _ _ _
   | exact bits_Len64.mono _ _
   | exact wide_Wide_Right.mono _ _ _ _
   | exact word_Parts.mono _ _
   | exact LeO.none _
   | refine LeO.ite ?_ ?_
   | refine LeO.bind ?_ (fun _ => ?_)
set_option maxHeartbeats 8000000 in
set_option maxRecDepth 100000 in
theorem more_ToInt.calls (k : Nat) (a0 : Int) (r1 : Int) (r2 : Int) (w : World) (h : more_ToInt.f k a0 = some (r1, r2)) :
  Calls Try.prog 15 #[.int .u64 a0] w fun e w' => e = .returned (.tuple #[.int .i64 r1, .int .u8 r2]) ∧ Below w.heap.size w w' := by
 have hu55 := Try.underlying55
 have HB := Aside0.mk (Below.refl w.heap.size w)
 have H : ((word_Finite.f a0).bind fun t192 => (if t192 = true then ((word_Parts.f k a0).bind fun bt193 => (if bt193.2 < 0 then ((wide_Wide_Right.f k 0 bt193.1 (wrap64 (-bt193.2))).bind fun bt195 => (if bt195.2.2 = true then (more_ToInt.j0 k a0 bt195.2.1 1) else (more_ToInt.j0 k a0 bt195.2.1 0))) else (if bt193.1 = 0 then (if 0 ≤ bt193.2 then (more_ToInt.j0 k a0 (shl .u64 bt193.1 bt193.2) 0) else (none)) else ((bits_Len64.f k bt193.1).bind fun t199 => (if (wrap64 (bt193.2 + t199)) > 64 then (some (0, 16)) else (if 0 ≤ bt193.2 then (more_ToInt.j0 k a0 (shl .u64 bt193.1 bt193.2) 0) else (none))))))) else (some (0, 16)))) = some (r1, r2) := h
 clear h
 obtain ⟨t192, A20, H⟩ := Option.bind_eq_some_iff.mp H
 (try dsimp -simprocs only at H)
 have A2 := Aside0.mk A20
 clear A20
 by_cases c3 : t192 = true
 ·
  subst c3
  rw [if_pos rfl] at H
  obtain ⟨⟨t193, t194⟩, A40, H⟩ := Option.bind_eq_some_iff.mp H
  (try dsimp -simprocs only at H)
  have A4 := Aside0.mk A40
  clear A40
  have HC5 := Aside0.mk H
  clear H
  go_enter Try.func15, Try.ntmps15
  go_upto_if 18 with (first | ((with_reducible refine gate_callee (f := 16) rfl ?_); refine goesL_ (some 10) rfl rfl Try.func16 (by kernel_rfl) rfl #[.int .u64 a0] rfl ga ?_; (with_reducible refine (word_Finite.calls a0 true _ A2.out).mono ?_); rintro e w' ⟨rfl, ⟨nd, rfl⟩⟩; refine ⟨_, rfl, ?_⟩) | ((with_reducible refine gate_callee (f := 37) rfl ?_); refine goesL_ (some 14) rfl rfl Try.func37 (by kernel_rfl) rfl #[.int .u64 a0] rfl ga ?_; (with_reducible refine (word_Parts.calls k a0 t193 t194 _ A4.out).mono ?_); rintro e w' ⟨rfl, ⟨nd, rfl⟩⟩; refine ⟨_, rfl, ?_⟩))
  (try simp only [Act.put, List.setIfInBounds_toArray, List.set_cons_zero, List.set_cons_succ])
  go_cut [4, 6] (fun v4 v6 wc => ∃ (kq : Nat) (x4_4 : Int) (x6_4 : Int), v4 = .int .u64 x4_4 ∧ v6 = .int .u8 x6_4 ∧ Aside0 (more_ToInt.j0 kq a0 x4_4 x6_4 = some (r1, r2)) ∧ Aside0 (kq ≤ k) ∧ Aside0 (Below w.heap.size w wc))
  case first =>
   have H := HC5.out
   clear HC5
   by_cases c6 : t194 < 0
   ·
    rw [if_pos c6] at H
    have c6b0 : decide (t194 < 0) = true := decide_eq_true c6
    clear c6
    (first | rw [c6b0] | (simp only [i64_w, i32_w]; rw [c6b0]) | skip)
    obtain ⟨⟨t195, t196, t197⟩, A70, H⟩ := Option.bind_eq_some_iff.mp H
    (try dsimp -simprocs only at H)
    have A7 := Aside0.mk A70
    clear A70
    by_cases c8 : t197 = true
    ·
     subst c8
     rw [if_pos rfl] at H
     have H' := Aside0.mk H
     clear H
     go_wp2_with (first | ((with_reducible refine gate_callee (f := 50) rfl ?_); refine goesL_ (some 24) rfl rfl Try.func50 (by kernel_rfl) rfl #[.agg #[.int .u64 0, .int .u64 t193], .int .i64 (wrap64 (-t194))] rfl ga ?_; (with_reducible refine (wide_Wide_Right.calls k 0 t193 (wrap64 (-t194)) t195 t196 true _ A7.out).mono ?_); rintro e w9 ⟨rfl, hb⟩; refine ⟨_, rfl, ?_⟩; have n0_ := Aside0.mk (below_step bel hb); clear HB; have HB := n0_; clear n0_; (try clear hb)) | ((with_reducible refine gate_dst (N := 7) rfl ?_); refine box_event ?hg (N := 7) ?hd (cs := #[.int .u64 0, .int .u64 0]) (t := 55) ?hr ?_; (case hd => rfl); (case hg => rfl); (case hr => first | (go_simp; done) | (go_simp; rfl)); intro gb198 hg w10 hbox hb; have n0_ := Aside0.mk (below_step bel hb); have n1_ := Aside0.mk (hbox); have n2_ := Aside0.mk ((by rw [hg]; exact (below_size bel) : w.heap.size ≤ gb198)); have n3_ := Aside0.mk ((by rw [hg]; exact (below_size bel) : w.heap.size ≤ gb198)); clear HB; have HB := n0_; have BK198 := n1_; have GW198 := n2_; have GE198 := n3_; clear n0_ n1_ n2_ n3_; clear hb hbox hg; have hcz11_0 : w10.cell? ⟨gb198, 0, none⟩ = some (.int .u64 0) := (blk_cell BK198.out 0).trans rfl; have hcz11_1 : w10.cell? ⟨gb198, 1, none⟩ = some (.int .u64 0) := (blk_cell BK198.out 1).trans rfl; have hfz11_0 := blk_frozen BK198.out 0; have hfz11_1 := blk_frozen BK198.out 1))
     go_meet
     case rel => exact ⟨_, (t196), (1), (by first | rfl | (simp; done) | (simp [*]; done)), (by first | rfl | (simp; done) | (simp [*]; done)), H', ⟨by first | omega | exact Nat.le_refl _⟩, ⟨bes⟩⟩
    ·
     replace c8 := Bool.eq_false_iff.mpr c8
     subst c8
     rw [if_neg (show ¬ (false = true) by decide)] at H
     have H' := Aside0.mk H
     clear H
     go_wp2_with (first | ((with_reducible refine gate_callee (f := 50) rfl ?_); refine goesL_ (some 24) rfl rfl Try.func50 (by kernel_rfl) rfl #[.agg #[.int .u64 0, .int .u64 t193], .int .i64 (wrap64 (-t194))] rfl ga ?_; (with_reducible refine (wide_Wide_Right.calls k 0 t193 (wrap64 (-t194)) t195 t196 false _ A7.out).mono ?_); rintro e w12 ⟨rfl, hb⟩; refine ⟨_, rfl, ?_⟩; have n0_ := Aside0.mk (below_step bel hb); clear HB; have HB := n0_; clear n0_; (try clear hb)) | ((with_reducible refine gate_dst (N := 7) rfl ?_); refine box_event ?hg (N := 7) ?hd (cs := #[.int .u64 0, .int .u64 0]) (t := 55) ?hr ?_; (case hd => rfl); (case hg => rfl); (case hr => first | (go_simp; done) | (go_simp; rfl)); intro gb198 hg w13 hbox hb; have n0_ := Aside0.mk (below_step bel hb); have n1_ := Aside0.mk (hbox); have n2_ := Aside0.mk ((by rw [hg]; exact (below_size bel) : w.heap.size ≤ gb198)); have n3_ := Aside0.mk ((by rw [hg]; exact (below_size bel) : w.heap.size ≤ gb198)); clear HB; have HB := n0_; have BK198 := n1_; have GW198 := n2_; have GE198 := n3_; clear n0_ n1_ n2_ n3_; clear hb hbox hg; have hcz14_0 : w13.cell? ⟨gb198, 0, none⟩ = some (.int .u64 0) := (blk_cell BK198.out 0).trans rfl; have hcz14_1 : w13.cell? ⟨gb198, 1, none⟩ = some (.int .u64 0) := (blk_cell BK198.out 1).trans rfl; have hfz14_0 := blk_frozen BK198.out 0; have hfz14_1 := blk_frozen BK198.out 1))
     go_meet
     case rel => exact ⟨_, (t196), (0), (by first | rfl | (simp; done) | (simp [*]; done)), (by first | rfl | (simp; done) | (simp [*]; done)), H', ⟨by first | omega | exact Nat.le_refl _⟩, ⟨bes⟩⟩
   ·
    rw [if_neg c6] at H
    have c6b0 : decide (t194 < 0) = false := decide_eq_false c6
    clear c6
    (first | rw [c6b0] | (simp only [i64_w, i32_w]; rw [c6b0]) | skip)
    by_cases c15 : t193 = 0
    ·
     rw [if_pos c15] at H
     have c15b0 : (t193 == 0) = true := beq_iff_eq.mpr c15
     have c15b1 : (t193 != 0) = false := bne_eq_false_iff_eq.mpr c15
     clear c15
     by_cases c16 : 0 ≤ t194
     ·
      rw [if_pos c16] at H
      have c16b0 := eq_true c16
      have c16b1 : decide (0 ≤ t194) = true := decide_eq_true c16
      clear c16
      obtain ⟨ji17, hji17⟩ : ∃ j_ : Int, (shl .u64 t193 t194) = j_ := ⟨_, rfl⟩
      replace H : (more_ToInt.j0 k a0 ji17 0) = some (r1, r2) := by first | (rw [hji17] at H; exact H) | (simp only [hji17] at H ⊢; exact H)
      have hji17_ : (IntKind.u64.wrap (t193 * 2 ^ min t194.toNat 64)) = ji17 := hji17
      have hji17z : t194 ≤ 64 → (IntKind.u64.wrap (t193 * 2 ^ t194.toNat)) = ji17 := shl_small hji17
      have H' := Aside0.mk H
      clear H
      go_wp2
      go_meet
      case rel => exact ⟨_, (ji17), (0), (by first | rfl | (simp; done) | (simp only [← hji17] <;> (first | rfl | simp)) | (simp [*]; done)), (by first | rfl | (simp; done) | (simp [*]; done)), H', ⟨by first | omega | exact Nat.le_refl _⟩, ⟨bel⟩⟩
     ·
      rw [if_neg c16] at H
      exact absurd H (by simp)
    ·
     rw [if_neg c15] at H
     have c15b0 : (t193 == 0) = false := beq_eq_false_iff_ne.mpr c15
     have c15b1 : (t193 != 0) = true := bne_iff_ne.mpr c15
     obtain ⟨t199, A180, H⟩ := Option.bind_eq_some_iff.mp H
     (try dsimp -simprocs only at H)
     have A18 := Aside0.mk A180
     clear A180
     by_cases c19 : (wrap64 (t194 + t199)) > 64
     ·
      rw [if_pos c19] at H
      have c19b0 : decide (64 < (wrap64 (t194 + t199))) = true := decide_eq_true c19
      clear c19
      simp only [Option.some.injEq, Prod.mk.injEq] at H
      obtain ⟨rfl, rfl⟩ := H
      go_wp2_with (first | (go_at_call 38; (with_reducible refine (bits_Len64.calls k t193 t199 _ A18.out).mono ?_); rintro e w' ⟨rfl, ⟨nd, rfl⟩⟩))
      go_ret2
      exact ⟨er, bel⟩
     ·
      rw [if_neg c19] at H
      have c19b0 : decide (64 < (wrap64 (t194 + t199))) = false := decide_eq_false c19
      clear c19
      by_cases c20 : 0 ≤ t194
      ·
       rw [if_pos c20] at H
       have c20b0 := eq_true c20
       have c20b1 : decide (0 ≤ t194) = true := decide_eq_true c20
       clear c20
       obtain ⟨ji21, hji21⟩ : ∃ j_ : Int, (shl .u64 t193 t194) = j_ := ⟨_, rfl⟩
       replace H : (more_ToInt.j0 k a0 ji21 0) = some (r1, r2) := by first | (rw [hji21] at H; exact H) | (simp only [hji21] at H ⊢; exact H)
       (try rw [hji21] at A18)
       have hji21_ : (IntKind.u64.wrap (t193 * 2 ^ min t194.toNat 64)) = ji21 := hji21
       have hji21z : t194 ≤ 64 → (IntKind.u64.wrap (t193 * 2 ^ t194.toNat)) = ji21 := shl_small hji21
       have H' := Aside0.mk H
       clear H
       go_wp2_with (first | (go_at_call 38; (with_reducible refine (bits_Len64.calls k t193 t199 _ A18.out).mono ?_); rintro e w' ⟨rfl, ⟨nd, rfl⟩⟩))
       go_meet
       case rel => exact ⟨_, (ji21), (0), (by first | rfl | (simp; done) | (simp only [← hji21] <;> (first | rfl | simp)) | (simp [*]; done)), (by first | rfl | (simp; done) | (simp [*]; done)), H', ⟨by first | omega | exact Nat.le_refl _⟩, ⟨bel⟩⟩
      ·
       rw [if_neg c20] at H
       exact absurd H (by simp)
  case rest =>
   clear HC5
   try clear c1
   try clear c2
   try clear p2
   try clear c3
   try clear c5
   try clear c6
   try clear c6b0
   try clear p6
   try clear c8
   try clear c15
   try clear c15b0
   try clear c15b1
   try clear c16
   try clear c16b0
   try clear c16b1
   try clear c19
   try clear c19b0
   try clear c20
   try clear c20b0
   try clear c20b1
   try clear hcz11_0
   try clear hcz11_1
   try clear hcz14_0
   try clear hcz14_1
   try clear hfz11_0
   try clear hfz11_1
   try clear hfz14_0
   try clear hfz14_1
   obtain ⟨kq, x4_4, x6_4, rfl, rfl, HA, HJ4, HB⟩ := hcut
   cases kq with
   | zero => exact absurd HA.out (by simp [more_ToInt.j0])
   | succ kj4 =>
    have H := HA.out
    clear HA
    simp only [more_ToInt.j0] at H
    have HC22 := Aside0.mk H
    clear H
    go_upto_region 13 with (fail)
    go_cut [42] (fun v42 wc => ∃ (kq : Nat) (x42_21 : Bool), v42 = .bool x42_21 ∧ Aside0 (more_ToInt.j1 kq a0 x4_4 x6_4 x42_21 = some (r1, r2)) ∧ Aside0 (kq ≤ kj4) ∧ Aside0 (Below w.heap.size w wc))
    case first =>
     have H := HC22.out
     clear HC22
     obtain ⟨t200, A230, H⟩ := Option.bind_eq_some_iff.mp H
     (try dsimp -simprocs only at H)
     have A23 := Aside0.mk A230
     clear A230
     by_cases c24 : t200 = true
     ·
      subst c24
      rw [if_pos rfl] at H
      have H' := Aside0.mk H
      clear H
      go_wp2_with (first | ((with_reducible refine gate_callee (f := 21) rfl ?_); refine goesL_ (some 44) rfl rfl Try.func21 (by kernel_rfl) rfl #[.int .u64 a0] rfl ga ?_; (with_reducible refine (word_Neg.calls a0 true _ A23.out).mono ?_); rintro e w' ⟨rfl, ⟨nd, rfl⟩⟩; refine ⟨_, rfl, ?_⟩))
      go_meet
      case rel => exact ⟨_, (false), (by first | rfl | (simp; done) | (simp [*]; done)), H', ⟨by have := HJ4.out; first | omega | exact Nat.le_refl _⟩, ⟨bel⟩⟩
     ·
      replace c24 := Bool.eq_false_iff.mpr c24
      subst c24
      rw [if_neg (show ¬ (false = true) by decide)] at H
      have H' := Aside0.mk H
      clear H
      go_wp2_with (first | ((with_reducible refine gate_callee (f := 21) rfl ?_); refine goesL_ (some 44) rfl rfl Try.func21 (by kernel_rfl) rfl #[.int .u64 a0] rfl ga ?_; (with_reducible refine (word_Neg.calls a0 false _ A23.out).mono ?_); rintro e w' ⟨rfl, ⟨nd, rfl⟩⟩; refine ⟨_, rfl, ?_⟩))
      go_meet
      case rel => exact ⟨_, (decide (x4_4 < 9223372036854775808)), (by first | rfl | (simp; done) | (simp [*]; done)), H', ⟨by have := HJ4.out; first | omega | exact Nat.le_refl _⟩, ⟨bel⟩⟩
    case rest =>
     clear HC22
     try clear c1
     try clear c2
     try clear p2
     try clear c3
     try clear c5
     try clear c6
     try clear c6b0
     try clear p6
     try clear c8
     try clear c15
     try clear c15b0
     try clear c15b1
     try clear c16
     try clear c16b0
     try clear c16b1
     try clear c19
     try clear c19b0
     try clear c20
     try clear c20b0
     try clear c20b1
     try clear c21
     try clear c24
     try clear hcz11_0
     try clear hcz11_1
     try clear hcz14_0
     try clear hcz14_1
     try clear hfz11_0
     try clear hfz11_1
     try clear hfz14_0
     try clear hfz14_1
     try clear p2
     try clear p6
     obtain ⟨kq, x42_21, rfl, HA, HJ21, HB⟩ := hcut
     cases kq with
     | zero => exact absurd HA.out (by simp [more_ToInt.j1])
     | succ kj21 =>
      have H := HA.out
      clear HA
      simp only [more_ToInt.j1] at H
      by_cases c25 : x42_21 = true
      ·
       subst c25
       rw [if_pos rfl] at H
       simp only [Option.some.injEq, Prod.mk.injEq] at H
       obtain ⟨rfl, rfl⟩ := H
       go_wp2
       go_ret2
       exact ⟨er, bel⟩
      ·
       replace c25 := Bool.eq_false_iff.mpr c25
       subst c25
       rw [if_neg (show ¬ (false = true) by decide)] at H
       obtain ⟨t201, A260, H⟩ := Option.bind_eq_some_iff.mp H
       (try dsimp -simprocs only at H)
       have A26 := Aside0.mk A260
       clear A260
       by_cases c27 : t201 = true
       ·
        subst c27
        rw [if_pos rfl] at H
        by_cases c28 : x4_4 ≤ 9223372036854775808
        ·
         rw [if_pos c28] at H
         have c28b0 : decide (x4_4 ≤ 9223372036854775808) = true := decide_eq_true c28
         clear c28
         simp only [Option.some.injEq, Prod.mk.injEq] at H
         obtain ⟨rfl, rfl⟩ := H
         go_wp2_with (first | ((with_reducible refine gate_callee (f := 21) rfl ?_); refine goesL_ (some 55) rfl rfl Try.func21 (by kernel_rfl) rfl #[.int .u64 a0] rfl ga ?_; (with_reducible refine (word_Neg.calls a0 true _ A26.out).mono ?_); rintro e w' ⟨rfl, ⟨nd, rfl⟩⟩; refine ⟨_, rfl, ?_⟩))
         go_ret2
         exact ⟨er, bel⟩
        ·
         rw [if_neg c28] at H
         have c28b0 : decide (x4_4 ≤ 9223372036854775808) = false := decide_eq_false c28
         clear c28
         simp only [Option.some.injEq, Prod.mk.injEq] at H
         obtain ⟨rfl, rfl⟩ := H
         go_wp2_with (first | ((with_reducible refine gate_callee (f := 21) rfl ?_); refine goesL_ (some 55) rfl rfl Try.func21 (by kernel_rfl) rfl #[.int .u64 a0] rfl ga ?_; (with_reducible refine (word_Neg.calls a0 true _ A26.out).mono ?_); rintro e w' ⟨rfl, ⟨nd, rfl⟩⟩; refine ⟨_, rfl, ?_⟩))
         go_ret2
         exact ⟨er, bel⟩
       ·
        replace c27 := Bool.eq_false_iff.mpr c27
        subst c27
        rw [if_neg (show ¬ (false = true) by decide)] at H
        simp only [Option.some.injEq, Prod.mk.injEq] at H
        obtain ⟨rfl, rfl⟩ := H
        go_wp2_with (first | ((with_reducible refine gate_callee (f := 21) rfl ?_); refine goesL_ (some 55) rfl rfl Try.func21 (by kernel_rfl) rfl #[.int .u64 a0] rfl ga ?_; (with_reducible refine (word_Neg.calls a0 false _ A26.out).mono ?_); rintro e w' ⟨rfl, ⟨nd, rfl⟩⟩; refine ⟨_, rfl, ?_⟩))
        go_ret2
        exact ⟨er, bel⟩
 ·
  replace c3 := Bool.eq_false_iff.mpr c3
  subst c3
  rw [if_neg (show ¬ (false = true) by decide)] at H
  simp only [Option.some.injEq, Prod.mk.injEq] at H
  obtain ⟨rfl, rfl⟩ := H
  go_enter Try.func15, Try.ntmps15
  go_wp2_with (first | ((with_reducible refine gate_callee (f := 16) rfl ?_); refine goesL_ (some 10) rfl rfl Try.func16 (by kernel_rfl) rfl #[.int .u64 a0] rfl ga ?_; (with_reducible refine (word_Finite.calls a0 false _ A2.out).mono ?_); rintro e w' ⟨rfl, ⟨nd, rfl⟩⟩; refine ⟨_, rfl, ?_⟩))
  go_ret2
  exact ⟨er, bel⟩

/-! ### gimballaw05_head: function 10 -/
def gimballaw05_head.f (k : Nat)  : Option (Bool) := (more_Sqrt.f k 4616189618054758400).bind fun bt202 => ((more_Scale.f k 4607182418800017408 (-1076)).bind fun bt204 => ((more_ToInt.f k 13832806255468478464).bind fun bt206 => (if bt202.1 = 4611686018427387904 then (if bt202.2 = 0 then (if bt204.1 = 0 then (if bt204.2 = 3 then (if bt206.1 = (-1) then (some (bt206.2 == 1)) else (some false)) else (some false)) else (some false)) else (some false)) else (some false))))
theorem gimballaw05_head.mono : ∀ k, LeO (gimballaw05_head.f k ) (gimballaw05_head.f (k + 1) ) := by
 intro  k
 unfold gimballaw05_head.f
 repeat' first
   | (with_reducible exact more_Scale.mono _ _ _)
   | (with_reducible exact more_Sqrt.mono _ _)
   | (with_reducible exact more_ToInt.mono _ _)
   | (with_reducible exact LeO.refl _)
   | (with_reducible exact LeO.none _)
   | (with_reducible refine LeO.ite ?_ ?_)
   | (with_reducible refine LeO.bind ?_ (fun _ => ?_))
   | exact more_Scale.mono _ _ _
   | exact more_Sqrt.mono _ _
   | exact more_ToInt.mono _ _
   | exact LeO.none _
   | refine LeO.ite ?_ ?_
   | refine LeO.bind ?_ (fun _ => ?_)
set_option maxHeartbeats 8000000 in
set_option maxRecDepth 100000 in
theorem gimballaw05_head.calls (k : Nat)  (r : Bool) (w : World) (h : gimballaw05_head.f k  = some r) :
  Calls Try.prog 10 #[] w fun e w' => e = .returned (.bool r) ∧ Below w.heap.size w w' := by
 have HB := Aside0.mk (Below.refl w.heap.size w)
 have H : ((more_Sqrt.f k 4616189618054758400).bind fun bt202 => ((more_Scale.f k 4607182418800017408 (-1076)).bind fun bt204 => ((more_ToInt.f k 13832806255468478464).bind fun bt206 => (if bt202.1 = 4611686018427387904 then (if bt202.2 = 0 then (if bt204.1 = 0 then (if bt204.2 = 3 then (if bt206.1 = (-1) then (some (bt206.2 == 1)) else (some false)) else (some false)) else (some false)) else (some false)) else (some false))))) = some r := h
 clear h
 obtain ⟨⟨t202, t203⟩, A10, H⟩ := Option.bind_eq_some_iff.mp H
 (try dsimp -simprocs only at H)
 have A1 := Aside0.mk A10
 clear A10
 obtain ⟨⟨t204, t205⟩, A20, H⟩ := Option.bind_eq_some_iff.mp H
 (try dsimp -simprocs only at H)
 have A2 := Aside0.mk A20
 clear A20
 obtain ⟨⟨t206, t207⟩, A30, H⟩ := Option.bind_eq_some_iff.mp H
 (try dsimp -simprocs only at H)
 have A3 := Aside0.mk A30
 clear A30
 by_cases c4 : t202 = 4611686018427387904
 ·
  rw [if_pos c4] at H
  have c4b0 : (t202 == 4611686018427387904) = true := beq_iff_eq.mpr c4
  have c4b1 : (t202 != 4611686018427387904) = false := bne_eq_false_iff_eq.mpr c4
  clear c4
  by_cases c5 : t203 = 0
  ·
   rw [if_pos c5] at H
   have c5b0 : (t203 == 0) = true := beq_iff_eq.mpr c5
   have c5b1 : (t203 != 0) = false := bne_eq_false_iff_eq.mpr c5
   clear c5
   by_cases c6 : t204 = 0
   ·
    rw [if_pos c6] at H
    have c6b0 : (t204 == 0) = true := beq_iff_eq.mpr c6
    have c6b1 : (t204 != 0) = false := bne_eq_false_iff_eq.mpr c6
    clear c6
    by_cases c7 : t205 = 3
    ·
     rw [if_pos c7] at H
     have c7b0 : (t205 == 3) = true := beq_iff_eq.mpr c7
     have c7b1 : (t205 != 3) = false := bne_eq_false_iff_eq.mpr c7
     clear c7
     by_cases c8 : t206 = (-1)
     ·
      rw [if_pos c8] at H
      have c8b0 : (t206 == (-1)) = true := beq_iff_eq.mpr c8
      have c8b1 : (t206 != (-1)) = false := bne_eq_false_iff_eq.mpr c8
      clear c8
      obtain rfl := Option.some.inj H
      go_enter Try.func10, Try.ntmps10
      go_wp2_with (first | ((with_reducible refine gate_callee (f := 11) rfl ?_); refine goesL_ (some 8) rfl rfl Try.func11 (by kernel_rfl) rfl #[.int .u64 4616189618054758400] rfl ga ?_; (with_reducible refine (more_Sqrt.calls k 4616189618054758400 t202 t203 _ A1.out).mono ?_); rintro e w9 ⟨rfl, hb⟩; refine ⟨_, rfl, ?_⟩; have n0_ := Aside0.mk (below_step bel hb); clear HB; have HB := n0_; clear n0_; (try clear hb)) | ((with_reducible refine gate_callee (f := 13) rfl ?_); refine goesL_ (some 12) rfl rfl Try.func13 (by kernel_rfl) rfl #[.int .u64 4607182418800017408, .int .i64 (-1076)] rfl ga ?_; (with_reducible refine (more_Scale.calls k 4607182418800017408 (-1076) t204 t205 _ A2.out).mono ?_); rintro e w10 ⟨rfl, hb⟩; refine ⟨_, rfl, ?_⟩; have n0_ := Aside0.mk (below_step bel hb); clear HB; have HB := n0_; clear n0_; (try clear hb)) | ((with_reducible refine gate_callee (f := 15) rfl ?_); refine goesL_ (some 16) rfl rfl Try.func15 (by kernel_rfl) rfl #[.int .u64 13832806255468478464] rfl ga ?_; (with_reducible refine (more_ToInt.calls k 13832806255468478464 t206 t207 _ A3.out).mono ?_); rintro e w11 ⟨rfl, hb⟩; refine ⟨_, rfl, ?_⟩; have n0_ := Aside0.mk (below_step bel hb); clear HB; have HB := n0_; clear n0_; (try clear hb)))
      go_ret
      exact ⟨er, bel⟩
     ·
      rw [if_neg c8] at H
      have c8b0 : (t206 == (-1)) = false := beq_eq_false_iff_ne.mpr c8
      have c8b1 : (t206 != (-1)) = true := bne_iff_ne.mpr c8
      obtain rfl := Option.some.inj H
      go_enter Try.func10, Try.ntmps10
      go_wp2_with (first | ((with_reducible refine gate_callee (f := 11) rfl ?_); refine goesL_ (some 8) rfl rfl Try.func11 (by kernel_rfl) rfl #[.int .u64 4616189618054758400] rfl ga ?_; (with_reducible refine (more_Sqrt.calls k 4616189618054758400 t202 t203 _ A1.out).mono ?_); rintro e w12 ⟨rfl, hb⟩; refine ⟨_, rfl, ?_⟩; have n0_ := Aside0.mk (below_step bel hb); clear HB; have HB := n0_; clear n0_; (try clear hb)) | ((with_reducible refine gate_callee (f := 13) rfl ?_); refine goesL_ (some 12) rfl rfl Try.func13 (by kernel_rfl) rfl #[.int .u64 4607182418800017408, .int .i64 (-1076)] rfl ga ?_; (with_reducible refine (more_Scale.calls k 4607182418800017408 (-1076) t204 t205 _ A2.out).mono ?_); rintro e w13 ⟨rfl, hb⟩; refine ⟨_, rfl, ?_⟩; have n0_ := Aside0.mk (below_step bel hb); clear HB; have HB := n0_; clear n0_; (try clear hb)) | ((with_reducible refine gate_callee (f := 15) rfl ?_); refine goesL_ (some 16) rfl rfl Try.func15 (by kernel_rfl) rfl #[.int .u64 13832806255468478464] rfl ga ?_; (with_reducible refine (more_ToInt.calls k 13832806255468478464 t206 t207 _ A3.out).mono ?_); rintro e w14 ⟨rfl, hb⟩; refine ⟨_, rfl, ?_⟩; have n0_ := Aside0.mk (below_step bel hb); clear HB; have HB := n0_; clear n0_; (try clear hb)))
      go_ret
      exact ⟨er, bel⟩
    ·
     rw [if_neg c7] at H
     have c7b0 : (t205 == 3) = false := beq_eq_false_iff_ne.mpr c7
     have c7b1 : (t205 != 3) = true := bne_iff_ne.mpr c7
     obtain rfl := Option.some.inj H
     go_enter Try.func10, Try.ntmps10
     go_wp2_with (first | ((with_reducible refine gate_callee (f := 11) rfl ?_); refine goesL_ (some 8) rfl rfl Try.func11 (by kernel_rfl) rfl #[.int .u64 4616189618054758400] rfl ga ?_; (with_reducible refine (more_Sqrt.calls k 4616189618054758400 t202 t203 _ A1.out).mono ?_); rintro e w15 ⟨rfl, hb⟩; refine ⟨_, rfl, ?_⟩; have n0_ := Aside0.mk (below_step bel hb); clear HB; have HB := n0_; clear n0_; (try clear hb)) | ((with_reducible refine gate_callee (f := 13) rfl ?_); refine goesL_ (some 12) rfl rfl Try.func13 (by kernel_rfl) rfl #[.int .u64 4607182418800017408, .int .i64 (-1076)] rfl ga ?_; (with_reducible refine (more_Scale.calls k 4607182418800017408 (-1076) t204 t205 _ A2.out).mono ?_); rintro e w16 ⟨rfl, hb⟩; refine ⟨_, rfl, ?_⟩; have n0_ := Aside0.mk (below_step bel hb); clear HB; have HB := n0_; clear n0_; (try clear hb)) | ((with_reducible refine gate_callee (f := 15) rfl ?_); refine goesL_ (some 16) rfl rfl Try.func15 (by kernel_rfl) rfl #[.int .u64 13832806255468478464] rfl ga ?_; (with_reducible refine (more_ToInt.calls k 13832806255468478464 t206 t207 _ A3.out).mono ?_); rintro e w17 ⟨rfl, hb⟩; refine ⟨_, rfl, ?_⟩; have n0_ := Aside0.mk (below_step bel hb); clear HB; have HB := n0_; clear n0_; (try clear hb)))
     go_ret
     exact ⟨er, bel⟩
   ·
    rw [if_neg c6] at H
    have c6b0 : (t204 == 0) = false := beq_eq_false_iff_ne.mpr c6
    have c6b1 : (t204 != 0) = true := bne_iff_ne.mpr c6
    obtain rfl := Option.some.inj H
    go_enter Try.func10, Try.ntmps10
    go_wp2_with (first | ((with_reducible refine gate_callee (f := 11) rfl ?_); refine goesL_ (some 8) rfl rfl Try.func11 (by kernel_rfl) rfl #[.int .u64 4616189618054758400] rfl ga ?_; (with_reducible refine (more_Sqrt.calls k 4616189618054758400 t202 t203 _ A1.out).mono ?_); rintro e w18 ⟨rfl, hb⟩; refine ⟨_, rfl, ?_⟩; have n0_ := Aside0.mk (below_step bel hb); clear HB; have HB := n0_; clear n0_; (try clear hb)) | ((with_reducible refine gate_callee (f := 13) rfl ?_); refine goesL_ (some 12) rfl rfl Try.func13 (by kernel_rfl) rfl #[.int .u64 4607182418800017408, .int .i64 (-1076)] rfl ga ?_; (with_reducible refine (more_Scale.calls k 4607182418800017408 (-1076) t204 t205 _ A2.out).mono ?_); rintro e w19 ⟨rfl, hb⟩; refine ⟨_, rfl, ?_⟩; have n0_ := Aside0.mk (below_step bel hb); clear HB; have HB := n0_; clear n0_; (try clear hb)) | ((with_reducible refine gate_callee (f := 15) rfl ?_); refine goesL_ (some 16) rfl rfl Try.func15 (by kernel_rfl) rfl #[.int .u64 13832806255468478464] rfl ga ?_; (with_reducible refine (more_ToInt.calls k 13832806255468478464 t206 t207 _ A3.out).mono ?_); rintro e w20 ⟨rfl, hb⟩; refine ⟨_, rfl, ?_⟩; have n0_ := Aside0.mk (below_step bel hb); clear HB; have HB := n0_; clear n0_; (try clear hb)))
    go_ret
    exact ⟨er, bel⟩
  ·
   rw [if_neg c5] at H
   have c5b0 : (t203 == 0) = false := beq_eq_false_iff_ne.mpr c5
   have c5b1 : (t203 != 0) = true := bne_iff_ne.mpr c5
   obtain rfl := Option.some.inj H
   go_enter Try.func10, Try.ntmps10
   go_wp2_with (first | ((with_reducible refine gate_callee (f := 11) rfl ?_); refine goesL_ (some 8) rfl rfl Try.func11 (by kernel_rfl) rfl #[.int .u64 4616189618054758400] rfl ga ?_; (with_reducible refine (more_Sqrt.calls k 4616189618054758400 t202 t203 _ A1.out).mono ?_); rintro e w21 ⟨rfl, hb⟩; refine ⟨_, rfl, ?_⟩; have n0_ := Aside0.mk (below_step bel hb); clear HB; have HB := n0_; clear n0_; (try clear hb)) | ((with_reducible refine gate_callee (f := 13) rfl ?_); refine goesL_ (some 12) rfl rfl Try.func13 (by kernel_rfl) rfl #[.int .u64 4607182418800017408, .int .i64 (-1076)] rfl ga ?_; (with_reducible refine (more_Scale.calls k 4607182418800017408 (-1076) t204 t205 _ A2.out).mono ?_); rintro e w22 ⟨rfl, hb⟩; refine ⟨_, rfl, ?_⟩; have n0_ := Aside0.mk (below_step bel hb); clear HB; have HB := n0_; clear n0_; (try clear hb)) | ((with_reducible refine gate_callee (f := 15) rfl ?_); refine goesL_ (some 16) rfl rfl Try.func15 (by kernel_rfl) rfl #[.int .u64 13832806255468478464] rfl ga ?_; (with_reducible refine (more_ToInt.calls k 13832806255468478464 t206 t207 _ A3.out).mono ?_); rintro e w23 ⟨rfl, hb⟩; refine ⟨_, rfl, ?_⟩; have n0_ := Aside0.mk (below_step bel hb); clear HB; have HB := n0_; clear n0_; (try clear hb)))
   go_ret
   exact ⟨er, bel⟩
 ·
  rw [if_neg c4] at H
  have c4b0 : (t202 == 4611686018427387904) = false := beq_eq_false_iff_ne.mpr c4
  have c4b1 : (t202 != 4611686018427387904) = true := bne_iff_ne.mpr c4
  obtain rfl := Option.some.inj H
  go_enter Try.func10, Try.ntmps10
  go_wp2_with (first | ((with_reducible refine gate_callee (f := 11) rfl ?_); refine goesL_ (some 8) rfl rfl Try.func11 (by kernel_rfl) rfl #[.int .u64 4616189618054758400] rfl ga ?_; (with_reducible refine (more_Sqrt.calls k 4616189618054758400 t202 t203 _ A1.out).mono ?_); rintro e w24 ⟨rfl, hb⟩; refine ⟨_, rfl, ?_⟩; have n0_ := Aside0.mk (below_step bel hb); clear HB; have HB := n0_; clear n0_; (try clear hb)) | ((with_reducible refine gate_callee (f := 13) rfl ?_); refine goesL_ (some 12) rfl rfl Try.func13 (by kernel_rfl) rfl #[.int .u64 4607182418800017408, .int .i64 (-1076)] rfl ga ?_; (with_reducible refine (more_Scale.calls k 4607182418800017408 (-1076) t204 t205 _ A2.out).mono ?_); rintro e w25 ⟨rfl, hb⟩; refine ⟨_, rfl, ?_⟩; have n0_ := Aside0.mk (below_step bel hb); clear HB; have HB := n0_; clear n0_; (try clear hb)) | ((with_reducible refine gate_callee (f := 15) rfl ?_); refine goesL_ (some 16) rfl rfl Try.func15 (by kernel_rfl) rfl #[.int .u64 13832806255468478464] rfl ga ?_; (with_reducible refine (more_ToInt.calls k 13832806255468478464 t206 t207 _ A3.out).mono ?_); rintro e w26 ⟨rfl, hb⟩; refine ⟨_, rfl, ?_⟩; have n0_ := Aside0.mk (below_step bel hb); clear HB; have HB := n0_; clear n0_; (try clear hb)))
  go_ret
  exact ⟨er, bel⟩

end Go.Proofs.Ytcappkphcjgeoaa.F
