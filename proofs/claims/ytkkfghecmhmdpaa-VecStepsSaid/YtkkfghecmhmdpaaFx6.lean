-- Written by a program of this seat's session (mkprint), out of the translation.
import Derived.Test.YtkkfghecmhmdpaaShort
import Derived.Test.YtkkfghecmhmdpaaFx0
import Derived.Test.YtkkfghecmhmdpaaFx2
import Derived.Test.YtkkfghecmhmdpaaFx3
import Derived.Test.YtkkfghecmhmdpaaFx4
import Derived.Test.YtkkfghecmhmdpaaFx5
namespace Go.Proofs.Ytkkfghecmhmdpaa.F
open Go.RowKit Go.Proofs.YtkkfghecmhmdpaaW.PrintWords Go.Proofs.YtkkfghecmhmdpaaW.PrintLast Go.Proofs.YtkkfghecmhmdpaaW.PrintMore
attribute [local go_sem] max2_int min2_int max_two min_two max_three min_three max_four min_four   -- for this text's walks alone
set_option linter.unusedVariables false
set_option linter.unusedSimpArgs false

/-! ### soft_Add: function 30 -/
mutual
def soft_Add.j0 : Nat → Int → Int → Int → Int → Bool → Option (Int × Int)
 | 0, _, _, _, _, _ => none
 | k + 1, x0, x1, x9, x10, x37 => if x37 = true then (some (9221120237041090560, 16)) else (if x9 = 4 then (some (x0, 0)) else (if x10 = 4 then (some (x1, 0)) else (if x9 = 1 then (soft_Add.j1 k x0 x1 x9 x10 (x10 == 1)) else (soft_Add.j1 k x0 x1 x9 x10 false))))
def soft_Add.j1 : Nat → Int → Int → Int → Int → Bool → Option (Int × Int)
 | 0, _, _, _, _, _ => none
 | k + 1, x0, x1, x9, x10, x57 => if x57 = true then (some (Go.bits .and .u64 x0 x1, 0)) else (if x9 = 1 then (some (x1, 0)) else (if x10 = 1 then (some (x0, 0)) else ((word_Abs.f x0).bind fun t188 => ((word_Abs.f x1).bind fun t189 => (if t188 < t189 then (soft_Add.j2 k x1 x0) else (soft_Add.j2 k x0 x1))))))
def soft_Add.j2 : Nat → Int → Int → Option (Int × Int)
 | 0, _, _ => none
 | k + 1, x0, x1 => (word_Parts.f k x0).bind fun bt190 => ((word_Parts.f k x1).bind fun bt192 => ((wide_Wide_Left.f 0 bt190.1 64).bind fun bt194 => ((wide_Wide_Left.f 0 bt192.1 64).bind fun bt197 => ((wide_Wide_Right.f k bt197.1 bt197.2 (wrap64 (bt190.2 - bt192.2))).bind fun bt199 => ((word_Neg.f x0).bind fun t203 => ((word_Neg.f x1).bind fun t204 => (if (t203 == t204) = true then ((wide_Wide_Add.f bt194.1 bt194.2 bt199.1 bt199.2.1).bind fun bt205 => ((word_Neg.f x0).bind fun t209 => ((round_Round.f k t209 bt205.1 bt205.2.1 (wrap64 (bt190.2 - 64)) bt199.2.2).bind fun bt210 => (some (bt210.1, bt210.2))))) else (if bt199.2.2 = true then ((wide_Wide_Add.f bt199.1 bt199.2.1 0 1).bind fun bt212 => (soft_Add.j3 k x0 bt190.2 bt199.2.2 bt194.1 bt194.2 bt212.1 bt212.2.1)) else (soft_Add.j3 k x0 bt190.2 bt199.2.2 bt194.1 bt194.2 bt199.1 bt199.2.1)))))))))
def soft_Add.j3 : Nat → Int → Int → Bool → Int → Int → Int → Int → Option (Int × Int)
 | 0, _, _, _, _, _, _, _ => none
 | k + 1, x0, x12, x17, x197000, x197001, x203000, x203001 => (wide_Wide_Sub.f x197000 x197001 x203000 x203001).bind fun bt215 => ((wide_Wide_Zero.f bt215.1 bt215.2.1).bind fun t219 => (if t219 = true then (soft_Add.j4 k x0 x12 x17 (!x17) bt215.1 bt215.2.1) else (soft_Add.j4 k x0 x12 x17 false bt215.1 bt215.2.1)))
def soft_Add.j4 : Nat → Int → Int → Bool → Bool → Int → Int → Option (Int × Int)
 | 0, _, _, _, _, _, _ => none
 | k + 1, x0, x12, x17, x143, x219000, x219001 => if x143 = true then (some (0, 0)) else ((word_Neg.f x0).bind fun t220 => ((round_Round.f k t220 x219000 x219001 (wrap64 (x12 - 64)) x17).bind fun bt221 => (some (bt221.1, bt221.2))))
end
def soft_Add.f (k : Nat) (a0 : Int) (a1 : Int) : Option (Int × Int) := (soft_nan.f k (([a0, a1] : List Int))).bind fun bt183 => (if bt183.2.2 = true then (some (bt183.1, bt183.2.1)) else ((word_Kind.f k a0).bind fun t186 => ((word_Kind.f k a1).bind fun t187 => (if t186 = 4 then (if t187 = 4 then (soft_Add.j0 k a0 a1 t186 t187 (a0 != a1)) else (soft_Add.j0 k a0 a1 t186 t187 false)) else (soft_Add.j0 k a0 a1 t186 t187 false)))))
theorem soft_Add.mono_l : ∀ k, (∀ y0 y1 y2 y3 y4, LeO (soft_Add.j0 k y0 y1 y2 y3 y4) (soft_Add.j0 (k + 1) y0 y1 y2 y3 y4)) ∧ (∀ y0 y1 y2 y3 y4, LeO (soft_Add.j1 k y0 y1 y2 y3 y4) (soft_Add.j1 (k + 1) y0 y1 y2 y3 y4)) ∧ (∀ y0 y1, LeO (soft_Add.j2 k y0 y1) (soft_Add.j2 (k + 1) y0 y1)) ∧ (∀ y0 y1 y2 y3 y4 y5 y6, LeO (soft_Add.j3 k y0 y1 y2 y3 y4 y5 y6) (soft_Add.j3 (k + 1) y0 y1 y2 y3 y4 y5 y6)) ∧ (∀ y0 y1 y2 y3 y4 y5, LeO (soft_Add.j4 k y0 y1 y2 y3 y4 y5) (soft_Add.j4 (k + 1) y0 y1 y2 y3 y4 y5))
 | 0 => ⟨fun _ _ _ _ _ r h => by simp [soft_Add.j0] at h, fun _ _ _ _ _ r h => by simp [soft_Add.j1] at h, fun _ _ r h => by simp [soft_Add.j2] at h, fun _ _ _ _ _ _ _ r h => by simp [soft_Add.j3] at h, fun _ _ _ _ _ _ r h => by simp [soft_Add.j4] at h⟩
 | k + 1 => by
  obtain ⟨ih0, ih1, ih2, ih3, ih4⟩ := soft_Add.mono_l k
  refine ⟨?_, ?_, ?_, ?_, ?_⟩ <;> intros <;> (first | unfold soft_Add.j0 | unfold soft_Add.j1 | unfold soft_Add.j2 | unfold soft_Add.j3 | unfold soft_Add.j4) <;>
   repeat' with_reducible first | apply ih0 | apply ih1 | apply ih2 | apply ih3 | apply ih4 | apply round_Round.mono | apply soft_nan.mono | apply wide_Wide_Right.mono | apply word_Kind.mono | apply word_Parts.mono | exact LeO.refl _ | exact LeO.none _ | refine LeO.ite ?_ ?_ | refine LeO.bind ?_ (fun _ => ?_)
theorem soft_Add.mono : ∀ a0 a1 k, LeO (soft_Add.f k a0 a1) (soft_Add.f (k + 1) a0 a1) := by
 intro a0 a1 k
 obtain ⟨ih0, ih1, ih2, ih3, ih4⟩ := soft_Add.mono_l k
 unfold soft_Add.f
 repeat' with_reducible first | apply ih0 | apply ih1 | apply ih2 | apply ih3 | apply ih4 | apply round_Round.mono | apply soft_nan.mono | apply wide_Wide_Right.mono | apply word_Kind.mono | apply word_Parts.mono | exact LeO.refl _ | exact LeO.none _ | refine LeO.ite ?_ ?_ | refine LeO.bind ?_ (fun _ => ?_)
def soft_Add.T25 : Bool × List (List Nat × List Nat) := (true, [([], []), ([0], [0]), ([], []), ([], []), ([3], [3]), ([], []), ([1, 2, 4, 5, 1], [1, 2, 4, 5]), ([6], [6]), ([6], [6]), ([7, 6, 0, 1, 2, 3, 4, 5, 6, 7, 8], [7]), ([8, 9, 0, 1, 2, 3, 4, 5, 6, 7, 8, 9], [8])])
def soft_Add.B25 : List Nat := [0, 1, 0, 0, 8, 0, 63, 127, 127, 511, 1023]
theorem soft_Add.tab25 : rtab .any (opsOf Try.f30 25) = soft_Add.T25 := by kernel_rfl
theorem soft_Add.bits25 : waitsOk soft_Add.T25.2 soft_Add.B25 = true := by kernel_rfl
def soft_Add.T31 : Bool × List (List Nat × List Nat) := (true, [([], []), ([0], [0]), ([], []), ([], []), ([3], [3]), ([], []), ([1, 2, 4, 5, 1], [1, 2, 4, 5]), ([6], [6]), ([6], [6]), ([7, 6, 0, 1, 2, 3, 4, 5, 6, 7, 8], [7]), ([8, 9, 0, 1, 2, 3, 4, 5, 6, 7, 8, 9], [8])])
def soft_Add.B31 : List Nat := [0, 1, 0, 0, 8, 0, 63, 127, 127, 511, 1023]
theorem soft_Add.tab31 : rtab .any (opsOf Try.f30 31) = soft_Add.T31 := by kernel_rfl
theorem soft_Add.bits31 : waitsOk soft_Add.T31.2 soft_Add.B31 = true := by kernel_rfl
set_option maxHeartbeats 8000000 in
set_option maxRecDepth 100000 in
theorem soft_Add.calls (k : Nat) (a0 : Int) (a1 : Int) (r1 : Int) (r2 : Int) (w : World) (h : soft_Add.f k a0 a1 = some (r1, r2)) :
  Calls Try.prog 30 #[.int .u64 a0, .int .u64 a1] w fun e w' => e = .returned (.tuple #[.int .u64 r1, .int .u8 r2]) ∧ Below w.heap.size w w' := by
 have hu58 := Try.underlying58
 have HB := Aside0.mk (Below.refl w.heap.size w)
 have H : ((soft_nan.f k (([a0, a1] : List Int))).bind fun bt183 => (if bt183.2.2 = true then (some (bt183.1, bt183.2.1)) else ((word_Kind.f k a0).bind fun t186 => ((word_Kind.f k a1).bind fun t187 => (if t186 = 4 then (if t187 = 4 then (soft_Add.j0 k a0 a1 t186 t187 (a0 != a1)) else (soft_Add.j0 k a0 a1 t186 t187 false)) else (soft_Add.j0 k a0 a1 t186 t187 false)))))) = some (r1, r2) := h
 clear h
 obtain ⟨y180, hy180⟩ : ∃ y_ : List Int, y_ = (([a0, a1] : List Int)) := ⟨_, rfl⟩
 replace H : ((soft_nan.f k y180).bind fun bt183 => (if bt183.2.2 = true then (some (bt183.1, bt183.2.1)) else ((word_Kind.f k a0).bind fun t186 => ((word_Kind.f k a1).bind fun t187 => (if t186 = 4 then (if t187 = 4 then (soft_Add.j0 k a0 a1 t186 t187 (a0 != a1)) else (soft_Add.j0 k a0 a1 t186 t187 false)) else (soft_Add.j0 k a0 a1 t186 t187 false)))))) = some (r1, r2) := by first | (rw [hy180]; with_reducible exact H) | (have H2_ := (Option.bind_some _ _).symm.trans H; rw [hy180]; with_reducible exact H2_) | (have H2_ := (Option.bind_some _ _).symm.trans H; with_reducible exact H2_) | with_reducible exact H | (rw [hy180]; exact H) | exact H
 have Ny180 := Aside0.mk hy180
 clear hy180
 obtain ⟨⟨t183, t184, t185⟩, A30, H⟩ := Option.bind_eq_some_iff.mp H
 (try dsimp -simprocs only at H)
 have A3 := Aside0.mk A30
 clear A30
 by_cases c4 : t185 = true
 ·
  subst c4
  rw [if_pos rfl] at H
  simp only [Option.some.injEq, Prod.mk.injEq] at H
  obtain ⟨rfl, rfl⟩ := H
  go_enter Try.func30, Try.ntmps30
  go_wp2_with (first | ((with_reducible refine gate_dst (N := 25) rfl ?_); refine Kd.R_lit (Kd.int .u64) _ 28 ?hg (N := 25) ?hd (xs := ([a0, a1] : List Int)) (inner := [.int .u64 a0, .int .u64 a1]) (ok := fun _ => True) (okp := fun _ => True) ?hr ?hp (fun _ hk => hk) trivial (Below.refl _ _) (Nat.le_refl _) (by simp) ?_; (case hd => rfl); (case hg => rfl); (case hr => first | (go_simp; done) | (go_simp; rfl)); (case hp => exact (Reps.one (show Kd.M (Kd.int .u64) _ _ _ a0 [.int .u64 a0] from rfl) (Reps.one (show Kd.M (Kd.int .u64) _ _ _ a1 [.int .u64 a1] from rfl) (Reps.none _ _)))); intro v181 w5 ho6 hb hg_ hnew_; clear hg_ hnew_; (first | rw [← Ny180.out] at ho6 | (simp only [Int.reduceToNat] at ho6; rw [← Ny180.out] at ho6)); refine ax2 (Kd.R_lower ho6 (below_size bel)) (below_step bel hb) ?_; clear HB; intro HO182 HB; clear hb ho6; obtain ⟨Ao7, co7, eo7⟩ := Kd.R_slice HO182.out; subst eo7) | ((with_reducible refine gate_callee (f := 44) rfl ?_); refine goesL_ (some 26) rfl rfl Try.func44 (by kernel_rfl) rfl #[.slice Ao7 y180.length co7] rfl ga ?_; (with_reducible refine (soft_nan.calls k _ _ y180 t183 t184 true _ ?side1 ?side2 A3.out).mono ?_); (case side1 => exact ks HO182); (case side2 => exact (Kd.R_reads' HO182.out).2.1); rintro e w' ⟨rfl, ⟨nd, rfl⟩⟩; refine ⟨_, rfl, ?_⟩))
  go_ret2
  exact ⟨er, bel⟩
 ·
  replace c4 := Bool.eq_false_iff.mpr c4
  subst c4
  rw [if_neg (show ¬ (false = true) by decide)] at H
  obtain ⟨t186, A80, H⟩ := Option.bind_eq_some_iff.mp H
  (try dsimp -simprocs only at H)
  have A8 := Aside0.mk A80
  clear A80
  obtain ⟨t187, A90, H⟩ := Option.bind_eq_some_iff.mp H
  (try dsimp -simprocs only at H)
  have A9 := Aside0.mk A90
  clear A90
  have HC10 := Aside0.mk H
  clear H
  go_enter Try.func30, Try.ntmps30
  go_upto_region 5 with (first | ((with_reducible refine gate_dst (N := 25) rfl ?_); refine Kd.R_lit (Kd.int .u64) _ 28 ?hg (N := 25) ?hd (xs := ([a0, a1] : List Int)) (inner := [.int .u64 a0, .int .u64 a1]) (ok := fun _ => True) (okp := fun _ => True) ?hr ?hp (fun _ hk => hk) trivial (Below.refl _ _) (Nat.le_refl _) (by simp) ?_; (case hd => rfl); (case hg => rfl); (case hr => first | (go_simp; done) | (go_simp; rfl)); (case hp => exact (Reps.one (show Kd.M (Kd.int .u64) _ _ _ a0 [.int .u64 a0] from rfl) (Reps.one (show Kd.M (Kd.int .u64) _ _ _ a1 [.int .u64 a1] from rfl) (Reps.none _ _)))); intro v181 w11 ho12 hb hg_ hnew_; clear hg_ hnew_; (first | rw [← Ny180.out] at ho12 | (simp only [Int.reduceToNat] at ho12; rw [← Ny180.out] at ho12)); refine ax2 (Kd.R_lower ho12 (below_size bel)) (below_step bel hb) ?_; clear HB; intro HO182 HB; clear hb ho12; obtain ⟨Ao13, co13, eo13⟩ := Kd.R_slice HO182.out; subst eo13) | ((with_reducible refine gate_callee (f := 44) rfl ?_); refine goesL_ (some 26) rfl rfl Try.func44 (by kernel_rfl) rfl #[.slice Ao13 y180.length co13] rfl ga ?_; (with_reducible refine (soft_nan.calls k _ _ y180 t183 t184 false _ ?side1 ?side2 A3.out).mono ?_); (case side1 => exact ks HO182); (case side2 => exact (Kd.R_reads' HO182.out).2.1); rintro e w' ⟨rfl, ⟨nd, rfl⟩⟩; refine ⟨_, rfl, ?_⟩) | ((with_reducible refine gate_callee (f := 25) rfl ?_); refine goesL_ (some 34) rfl rfl Try.func25 (by kernel_rfl) rfl #[.int .u64 a0] rfl ga ?_; (with_reducible refine (word_Kind.calls k a0 t186 _ A8.out).mono ?_); rintro e w' ⟨rfl, ⟨nd, rfl⟩⟩; refine ⟨_, rfl, ?_⟩) | ((with_reducible refine gate_callee (f := 25) rfl ?_); refine goesL_ (some 36) rfl rfl Try.func25 (by kernel_rfl) rfl #[.int .u64 a1] rfl ga ?_; (with_reducible refine (word_Kind.calls k a1 t187 _ A9.out).mono ?_); rintro e w' ⟨rfl, ⟨nd, rfl⟩⟩; refine ⟨_, rfl, ?_⟩))
  (try simp only [Act.put, sa0, sa1, sa2])
  go_cut [37] (fun v37 wc => ∃ (kq : Nat) (x37_9 : Bool), v37 = .bool x37_9 ∧ Aside0 (soft_Add.j0 kq a0 a1 t186 t187 x37_9 = some (r1, r2)) ∧ Aside0 (kq ≤ k) ∧ Aside0 (Below w.heap.size w wc))
  case first =>
   have H := HC10.out
   clear HC10
   by_cases c14 : t186 = 4
   rotate_left
   ·
    rw [if_neg c14] at H
    have c14b0 : (t186 == 4) = false := beq_eq_false_iff_ne.mpr c14
    have c14b1 : (t186 != 4) = true := bne_iff_ne.mpr c14
    (first | rw [c14b0] | (simp only [i64_w, i32_w]; rw [c14b0]) | skip)
    have H' := Aside0.mk H
    clear H
    go_wp2
    go_meet
    case rel => exact ⟨_, (false), (by first | rfl | (simp; done) | (simp [*]; done)), H', ⟨by first | omega | exact Nat.le_refl _⟩, ⟨bel⟩⟩
   rw [if_pos c14] at H
   have c14b0 : (t186 == 4) = true := beq_iff_eq.mpr c14
   have c14b1 : (t186 != 4) = false := bne_eq_false_iff_eq.mpr c14
   clear c14
   (first | rw [c14b0] | (simp only [i64_w, i32_w]; rw [c14b0]) | skip)
   by_cases c15 : t187 = 4
   rotate_left
   ·
    rw [if_neg c15] at H
    have c15b0 : (t187 == 4) = false := beq_eq_false_iff_ne.mpr c15
    have c15b1 : (t187 != 4) = true := bne_iff_ne.mpr c15
    have H' := Aside0.mk H
    clear H
    go_wp2
    go_meet
    case rel => exact ⟨_, (false), (by first | rfl | (simp; done) | (simp [*]; done)), H', ⟨by first | omega | exact Nat.le_refl _⟩, ⟨bel⟩⟩
   rw [if_pos c15] at H
   have c15b0 : (t187 == 4) = true := beq_iff_eq.mpr c15
   have c15b1 : (t187 != 4) = false := bne_eq_false_iff_eq.mpr c15
   clear c15
   have H' := Aside0.mk H
   clear H
   go_wp2
   go_meet
   case rel => exact ⟨_, ((a0 != a1)), (by first | rfl | (simp; done) | (simp [*]; done)), H', ⟨by first | omega | exact Nat.le_refl _⟩, ⟨bel⟩⟩
  case rest =>
   clear HC10
   try clear c1
   try clear c2
   try clear p2
   try clear c3
   try clear c4
   try clear c14
   try clear c14b0
   try clear c14b1
   try clear c15
   try clear c15b0
   try clear c15b1
   obtain ⟨kq, x37_9, rfl, HA, HJ9, HB⟩ := hcut
   cases kq with
   | zero => exact absurd HA.out (by simp [soft_Add.j0])
   | succ kj9 =>
    have H := HA.out
    clear HA
    simp only [soft_Add.j0] at H
    by_cases c16 : x37_9 = true
    ·
     subst c16
     rw [if_pos rfl] at H
     simp only [Option.some.injEq, Prod.mk.injEq] at H
     obtain ⟨rfl, rfl⟩ := H
     go_wp2
     go_ret2
     exact ⟨er, bel⟩
    ·
     replace c16 := Bool.eq_false_iff.mpr c16
     subst c16
     rw [if_neg (show ¬ (false = true) by decide)] at H
     by_cases c17 : t186 = 4
     ·
      rw [if_pos c17] at H
      have c17b0 : (t186 == 4) = true := beq_iff_eq.mpr c17
      have c17b1 : (t186 != 4) = false := bne_eq_false_iff_eq.mpr c17
      clear c17
      simp only [Option.some.injEq, Prod.mk.injEq] at H
      obtain ⟨rfl, rfl⟩ := H
      go_wp2
      go_ret2
      exact ⟨er, bel⟩
     ·
      rw [if_neg c17] at H
      have c17b0 : (t186 == 4) = false := beq_eq_false_iff_ne.mpr c17
      have c17b1 : (t186 != 4) = true := bne_iff_ne.mpr c17
      by_cases c18 : t187 = 4
      ·
       rw [if_pos c18] at H
       have c18b0 : (t187 == 4) = true := beq_iff_eq.mpr c18
       have c18b1 : (t187 != 4) = false := bne_eq_false_iff_eq.mpr c18
       clear c18
       simp only [Option.some.injEq, Prod.mk.injEq] at H
       obtain ⟨rfl, rfl⟩ := H
       go_wp2
       go_ret2
       exact ⟨er, bel⟩
      ·
       rw [if_neg c18] at H
       have c18b0 : (t187 == 4) = false := beq_eq_false_iff_ne.mpr c18
       have c18b1 : (t187 != 4) = true := bne_iff_ne.mpr c18
       have HC19 := Aside0.mk H
       clear H
       go_upto_region 11 with (fail)
       go_cut [57] (fun v57 wc => ∃ (kq : Nat) (x57_18 : Bool), v57 = .bool x57_18 ∧ Aside0 (soft_Add.j1 kq a0 a1 t186 t187 x57_18 = some (r1, r2)) ∧ Aside0 (kq ≤ kj9) ∧ Aside0 (Below w.heap.size w wc))
       case first =>
        have H := HC19.out
        clear HC19
        by_cases c20 : t186 = 1
        rotate_left
        ·
         rw [if_neg c20] at H
         have c20b0 : (t186 == 1) = false := beq_eq_false_iff_ne.mpr c20
         have c20b1 : (t186 != 1) = true := bne_iff_ne.mpr c20
         (first | rw [c20b0] | (simp only [i64_w, i32_w]; rw [c20b0]) | skip)
         have H' := Aside0.mk H
         clear H
         go_wp2
         go_meet
         case rel => exact ⟨_, (false), (by first | rfl | (simp; done) | (simp [*]; done)), H', ⟨by have := HJ9.out; first | omega | exact Nat.le_refl _⟩, ⟨bel⟩⟩
        rw [if_pos c20] at H
        have c20b0 : (t186 == 1) = true := beq_iff_eq.mpr c20
        have c20b1 : (t186 != 1) = false := bne_eq_false_iff_eq.mpr c20
        clear c20
        (first | rw [c20b0] | (simp only [i64_w, i32_w]; rw [c20b0]) | skip)
        have H' := Aside0.mk H
        clear H
        go_wp2
        go_meet
        case rel => exact ⟨_, ((t187 == 1)), (by first | rfl | (simp; done) | (simp [*]; done)), H', ⟨by have := HJ9.out; first | omega | exact Nat.le_refl _⟩, ⟨bel⟩⟩
       case rest =>
        clear HC19
        try clear c1
        try clear c2
        try clear p2
        try clear c3
        try clear c4
        try clear c14
        try clear c14b0
        try clear c14b1
        try clear c15
        try clear c15b0
        try clear c15b1
        try clear c16
        try clear c17
        try clear c17b0
        try clear c17b1
        try clear c18
        try clear c18b0
        try clear c18b1
        try clear c20
        try clear c20b0
        try clear c20b1
        try clear p2
        obtain ⟨kq, x57_18, rfl, HA, HJ18, HB⟩ := hcut
        cases kq with
        | zero => exact absurd HA.out (by simp [soft_Add.j1])
        | succ kj18 =>
         have H := HA.out
         clear HA
         simp only [soft_Add.j1] at H
         by_cases c21 : x57_18 = true
         ·
          subst c21
          rw [if_pos rfl] at H
          simp only [Option.some.injEq, Prod.mk.injEq] at H
          obtain ⟨rfl, rfl⟩ := H
          go_wp2
          go_ret2
          exact ⟨er, bel⟩
         ·
          replace c21 := Bool.eq_false_iff.mpr c21
          subst c21
          rw [if_neg (show ¬ (false = true) by decide)] at H
          by_cases c22 : t186 = 1
          ·
           rw [if_pos c22] at H
           have c22b0 : (t186 == 1) = true := beq_iff_eq.mpr c22
           have c22b1 : (t186 != 1) = false := bne_eq_false_iff_eq.mpr c22
           clear c22
           simp only [Option.some.injEq, Prod.mk.injEq] at H
           obtain ⟨rfl, rfl⟩ := H
           go_wp2
           go_ret2
           exact ⟨er, bel⟩
          ·
           rw [if_neg c22] at H
           have c22b0 : (t186 == 1) = false := beq_eq_false_iff_ne.mpr c22
           have c22b1 : (t186 != 1) = true := bne_iff_ne.mpr c22
           by_cases c23 : t187 = 1
           ·
            rw [if_pos c23] at H
            have c23b0 : (t187 == 1) = true := beq_iff_eq.mpr c23
            have c23b1 : (t187 != 1) = false := bne_eq_false_iff_eq.mpr c23
            clear c23
            simp only [Option.some.injEq, Prod.mk.injEq] at H
            obtain ⟨rfl, rfl⟩ := H
            go_wp2
            go_ret2
            exact ⟨er, bel⟩
           ·
            rw [if_neg c23] at H
            have c23b0 : (t187 == 1) = false := beq_eq_false_iff_ne.mpr c23
            have c23b1 : (t187 != 1) = true := bne_iff_ne.mpr c23
            obtain ⟨t188, A240, H⟩ := Option.bind_eq_some_iff.mp H
            (try dsimp -simprocs only at H)
            have A24 := Aside0.mk A240
            clear A240
            obtain ⟨t189, A250, H⟩ := Option.bind_eq_some_iff.mp H
            (try dsimp -simprocs only at H)
            have A25 := Aside0.mk A250
            clear A250
            have HC26 := Aside0.mk H
            clear H
            go_upto_if 79 with (first | ((with_reducible refine gate_callee (f := 20) rfl ?_); refine goesL_ (some 76) rfl rfl Try.func20 (by kernel_rfl) rfl #[.int .u64 a0] rfl ga ?_; (with_reducible refine (word_Abs.calls a0 t188 _ A24.out).mono ?_); rintro e w' ⟨rfl, ⟨nd, rfl⟩⟩; refine ⟨_, rfl, ?_⟩) | ((with_reducible refine gate_callee (f := 20) rfl ?_); refine goesL_ (some 78) rfl rfl Try.func20 (by kernel_rfl) rfl #[.int .u64 a1] rfl ga ?_; (with_reducible refine (word_Abs.calls a1 t189 _ A25.out).mono ?_); rintro e w' ⟨rfl, ⟨nd, rfl⟩⟩; refine ⟨_, rfl, ?_⟩))
            (try simp only [Act.put, sa0, sa1, sa2])
            go_cut [0, 1] (fun v0 v1 wc => ∃ (kq : Nat) (x0_25 : Int) (x1_25 : Int), v0 = .int .u64 x0_25 ∧ v1 = .int .u64 x1_25 ∧ Aside0 (soft_Add.j2 kq x0_25 x1_25 = some (r1, r2)) ∧ Aside0 (kq ≤ kj18) ∧ Aside0 (Below w.heap.size w wc))
            case first =>
             have H := HC26.out
             clear HC26
             by_cases c27 : t188 < t189
             rotate_left
             ·
              rw [if_neg c27] at H
              have c27b0 : decide (t188 < t189) = false := decide_eq_false c27
              clear c27
              (first | rw [c27b0] | (simp only [i64_w, i32_w]; rw [c27b0]) | skip)
              have H' := Aside0.mk H
              clear H
              go_wp2
              go_meet
              case rel => exact ⟨_, (a0), (a1), (by first | rfl | (simp; done) | (simp [*]; done)), (by first | rfl | (simp; done) | (simp [*]; done)), H', ⟨by have := HJ9.out; have := HJ18.out; first | omega | exact Nat.le_refl _⟩, ⟨bel⟩⟩
             rw [if_pos c27] at H
             have c27b0 : decide (t188 < t189) = true := decide_eq_true c27
             clear c27
             (first | rw [c27b0] | (simp only [i64_w, i32_w]; rw [c27b0]) | skip)
             have H' := Aside0.mk H
             clear H
             go_wp2
             go_meet
             case rel => exact ⟨_, (a1), (a0), (by first | rfl | (simp; done) | (simp [*]; done)), (by first | rfl | (simp; done) | (simp [*]; done)), H', ⟨by have := HJ9.out; have := HJ18.out; first | omega | exact Nat.le_refl _⟩, ⟨bel⟩⟩
            case rest =>
             clear HC26
             try clear c1
             try clear c2
             try clear p2
             try clear c3
             try clear c4
             try clear c14
             try clear c14b0
             try clear c14b1
             try clear c15
             try clear c15b0
             try clear c15b1
             try clear c16
             try clear c17
             try clear c17b0
             try clear c17b1
             try clear c18
             try clear c18b0
             try clear c18b1
             try clear c20
             try clear c20b0
             try clear c20b1
             try clear c21
             try clear c22
             try clear c22b0
             try clear c22b1
             try clear c23
             try clear c23b0
             try clear c23b1
             try clear c25
             try clear c27
             try clear c27b0
             try clear p2
             obtain ⟨kq, x0_25, x1_25, rfl, rfl, HA, HJ25, HB⟩ := hcut
             cases kq with
             | zero => exact absurd HA.out (by simp [soft_Add.j2])
             | succ kj25 =>
              have H := HA.out
              clear HA
              simp only [soft_Add.j2] at H
              obtain ⟨⟨t190, t191⟩, A280, H⟩ := Option.bind_eq_some_iff.mp H
              (try dsimp -simprocs only at H)
              have A28 := Aside0.mk A280
              clear A280
              obtain ⟨⟨t192, t193⟩, A290, H⟩ := Option.bind_eq_some_iff.mp H
              (try dsimp -simprocs only at H)
              have A29 := Aside0.mk A290
              clear A290
              obtain ⟨⟨t194, t195⟩, A300, H⟩ := Option.bind_eq_some_iff.mp H
              (try dsimp -simprocs only at H)
              have A30 := Aside0.mk A300
              clear A300
              obtain ⟨⟨t197, t198⟩, A310, H⟩ := Option.bind_eq_some_iff.mp H
              (try dsimp -simprocs only at H)
              have A31 := Aside0.mk A310
              clear A310
              obtain ⟨⟨t199, t200, t201⟩, A320, H⟩ := Option.bind_eq_some_iff.mp H
              (try dsimp -simprocs only at H)
              have A32 := Aside0.mk A320
              clear A320
              obtain ⟨t203, A330, H⟩ := Option.bind_eq_some_iff.mp H
              (try dsimp -simprocs only at H)
              have A33 := Aside0.mk A330
              clear A330
              obtain ⟨t204, A340, H⟩ := Option.bind_eq_some_iff.mp H
              (try dsimp -simprocs only at H)
              have A34 := Aside0.mk A340
              clear A340
              by_cases c35 : (t203 == t204) = true
              ·
               rw [if_pos c35] at H
               have c35b0 : (t203 == t204) = true := c35
               (try (have c35b1 : decide (t203 = t204) = true := by simpa using c35))
               (try (have c35b2 : (t203 == t204) = true := by simpa using c35))
               clear c35
               obtain ⟨⟨t205, t206, t207⟩, A360, H⟩ := Option.bind_eq_some_iff.mp H
               (try dsimp -simprocs only at H)
               have A36 := Aside0.mk A360
               clear A360
               obtain ⟨t209, A370, H⟩ := Option.bind_eq_some_iff.mp H
               (try dsimp -simprocs only at H)
               have A37 := Aside0.mk A370
               clear A370
               obtain ⟨⟨t210, t211⟩, A380, H⟩ := Option.bind_eq_some_iff.mp H
               (try dsimp -simprocs only at H)
               have A38 := Aside0.mk A380
               clear A380
               simp only [Option.some.injEq, Prod.mk.injEq] at H
               obtain ⟨rfl, rfl⟩ := H
               try go_wp2_with (first | ((with_reducible refine gate_callee (f := 24) rfl ?_); refine goesL_ (some 84) rfl rfl Try.func24 (by kernel_rfl) rfl #[.int .u64 x0_25] rfl ga ?_; (with_reducible refine (word_Parts.calls kj25 x0_25 t190 t191 _ A28.out).mono ?_); rintro e w' ⟨rfl, ⟨nd, rfl⟩⟩; refine ⟨_, rfl, ?_⟩; (try (rw [drewN_self wc]; generalize hq_ : World.drewN wc _ = wc; have n0_ : Aside0 (Below w.heap.size w wc) := ⟨by rw [← hq_]; exact bel⟩; clear HB hq_; have HB := n0_; clear n0_))) | ((with_reducible refine gate_callee (f := 24) rfl ?_); refine goesL_ (some 89) rfl rfl Try.func24 (by kernel_rfl) rfl #[.int .u64 x1_25] rfl ga ?_; (with_reducible refine (word_Parts.calls kj25 x1_25 t192 t193 _ A29.out).mono ?_); rintro e w' ⟨rfl, ⟨nd, rfl⟩⟩; refine ⟨_, rfl, ?_⟩; (try (rw [drewN_self wc]; generalize hq_ : World.drewN wc _ = wc; have n0_ : Aside0 (Below w.heap.size w wc) := ⟨by rw [← hq_]; exact bel⟩; clear HB hq_; have HB := n0_; clear n0_))) | ((with_reducible refine gate_callee (f := 33) rfl ?_); refine goesL_ (some 94) rfl rfl Try.func33 (by kernel_rfl) rfl #[.agg #[.int .u64 0, .int .u64 t190], .int .i64 64] rfl ga ?_; (with_reducible refine (wide_Wide_Left.calls 0 t190 64 t194 t195 _ A30.out).mono ?_); rintro e w39 ⟨rfl, hb⟩; refine ⟨_, rfl, ?_⟩; refine ax1 (below_step bel hb) ?_; clear HB; intro HB; (try clear hb)) | ((with_reducible refine gate_dst (N := 15) rfl ?_); refine gbox (N := 15) (cs := #[.int .u64 0, .int .u64 0]) (t := 58) ?_; intro gb196 hg w40 hbox hb; refine ax4 (below_step bel hb) hbox ((ge hg : w.heap.size ≤ gb196)) ((ge hg : w.heap.size ≤ gb196)) ?_; clear HB; intro HB BK196 GW196 GE196; clear hb hbox hg; have hcz41_0 := bc BK196 0 rfl; have hcz41_1 := bc BK196 1 rfl; have hfz41_0 := blk_frozen BK196.out 0; have hfz41_1 := blk_frozen BK196.out 1) | ((with_reducible refine gate_callee (f := 33) rfl ?_); refine goesL_ (some 98) rfl rfl Try.func33 (by kernel_rfl) rfl #[.agg #[.int .u64 0, .int .u64 t192], .int .i64 64] rfl ga ?_; (with_reducible refine (wide_Wide_Left.calls 0 t192 64 t197 t198 _ A31.out).mono ?_); rintro e w42 ⟨rfl, hb⟩; refine ⟨_, rfl, ?_⟩; refine ax2 (blk_below (g := gb196) (o := .cells #[.int .u64 t194, .int .u64 t195] 58 (0, 0)) (by (with_reducible repeat (first | refine blk_drewN ?_ _ | refine blk_drew ?_ | refine blk_alloc ?_ _)); refine blk_put (cs := #[.int .u64 t194, .int .u64 0]) ?_ 1 _ rfl; (with_reducible repeat (first | refine blk_drewN ?_ _ | refine blk_drew ?_ | refine blk_alloc ?_ _)); refine blk_put (cs := #[.int .u64 0, .int .u64 0]) ?_ 0 _ rfl; (with_reducible repeat (first | refine blk_drewN ?_ _ | refine blk_drew ?_ | refine blk_alloc ?_ _)); exact BK196.out) hb) (below_step bes hb) ?_; clear BK196; clear HB; intro BK196 HB; (try clear hb)) | ((with_reducible refine gate_callee (f := 41) rfl ?_); refine goesL_ (some 102) rfl rfl Try.func41 (by kernel_rfl) rfl #[.agg #[.int .u64 t197, .int .u64 t198], .int .i64 (wrap64 (t191 - t193))] rfl ga ?_; (with_reducible refine (wide_Wide_Right.calls kj25 t197 t198 (wrap64 (t191 - t193)) t199 t200 t201 _ A32.out).mono ?_); rintro e w43 ⟨rfl, hb⟩; refine ⟨_, rfl, ?_⟩; refine ax2 (bb BK196 hb) (below_step bes hb) ?_; clear BK196; clear HB; intro BK196 HB; (try clear hb)) | ((with_reducible refine gate_dst (N := 16) rfl ?_); refine gbox (N := 16) (cs := #[.int .u64 0, .int .u64 0]) (t := 58) ?_; intro gb202 hg w44 hbox hb; refine ax7 (bb BK196 hb) (below_step bes hb) hbox ((ge hg : w.heap.size ≤ gb202)) ((ge hg : w.heap.size ≤ gb202)) (nl hg BK196) (ng hg BK196) ?_; clear BK196; clear HB; intro BK196 HB BK202 GW202 GE202 NB196_202 NB202_196; clear hb hbox hg; have hnb45 := NB202_196.out; have hnc45 := NB196_202.out; have hcz46_0 := bc BK202 0 rfl; have hcz46_1 := bc BK202 1 rfl; have hfz46_0 := blk_frozen BK202.out 0; have hfz46_1 := blk_frozen BK202.out 1) | ((with_reducible refine gate_callee (f := 28) rfl ?_); refine goesL_ (some 106) rfl rfl Try.func28 (by kernel_rfl) rfl #[.int .u64 x0_25] rfl ga ?_; (with_reducible refine (word_Neg.calls x0_25 t203 _ A33.out).mono ?_); rintro e w' ⟨rfl, ⟨nd, rfl⟩⟩; refine ⟨_, rfl, ?_⟩) | ((with_reducible refine gate_callee (f := 28) rfl ?_); refine goesL_ (some 108) rfl rfl Try.func28 (by kernel_rfl) rfl #[.int .u64 x1_25] rfl ga ?_; (with_reducible refine (word_Neg.calls x1_25 t204 _ A34.out).mono ?_); rintro e w' ⟨rfl, ⟨nd, rfl⟩⟩; refine ⟨_, rfl, ?_⟩; have hcz47_0 := bc BK196 0 rfl; have hcz47_1 := bc BK196 1 rfl; have hfz47_0 := blk_frozen BK196.out 0; have hfz47_1 := blk_frozen BK196.out 1) | ((with_reducible refine gate_callee (f := 43) rfl ?_); refine goesL_ (some 113) rfl rfl Try.func43 (by kernel_rfl) rfl #[.agg #[.int .u64 t194, .int .u64 t195], .agg #[.int .u64 t199, .int .u64 t200]] rfl ga ?_; (with_reducible refine (wide_Wide_Add.calls t194 t195 t199 t200 t205 t206 t207 _ A36.out).mono ?_); rintro e w48 ⟨rfl, hb⟩; refine ⟨_, rfl, ?_⟩; refine ax3 (blk_below (g := gb196) (o := .cells #[.int .u64 t194, .int .u64 t195] 58 (0, 0)) (by (with_reducible repeat (first | refine blk_drewN ?_ _ | refine blk_drew ?_ | refine blk_alloc ?_ _)); refine blk_far ?_ NB196_202.out _; (with_reducible repeat (first | refine blk_drewN ?_ _ | refine blk_drew ?_ | refine blk_alloc ?_ _)); refine blk_far ?_ NB196_202.out _; (with_reducible repeat (first | refine blk_drewN ?_ _ | refine blk_drew ?_ | refine blk_alloc ?_ _)); exact BK196.out) hb) (blk_below (g := gb202) (o := .cells #[.int .u64 t199, .int .u64 t200] 58 (0, 0)) (by (with_reducible repeat (first | refine blk_drewN ?_ _ | refine blk_drew ?_ | refine blk_alloc ?_ _)); refine blk_put (cs := #[.int .u64 t199, .int .u64 0]) ?_ 1 _ rfl; (with_reducible repeat (first | refine blk_drewN ?_ _ | refine blk_drew ?_ | refine blk_alloc ?_ _)); refine blk_put (cs := #[.int .u64 0, .int .u64 0]) ?_ 0 _ rfl; (with_reducible repeat (first | refine blk_drewN ?_ _ | refine blk_drew ?_ | refine blk_alloc ?_ _)); exact BK202.out) hb) (below_step bes hb) ?_; clear BK196; clear BK202; clear HB; intro BK196 BK202 HB; (try clear hb)) | ((with_reducible refine gate_dst (N := 18) rfl ?_); refine gbox (N := 18) (cs := #[.int .u64 0, .int .u64 0]) (t := 58) ?_; intro gb208 hg w49 hbox hb; refine ax10 (bb BK196 hb) (bb BK202 hb) (below_step bes hb) hbox ((ge hg : w.heap.size ≤ gb208)) ((ge hg : w.heap.size ≤ gb208)) (nl hg BK196) (ng hg BK196) (nl hg BK202) (ng hg BK202) ?_; clear BK196; clear BK202; clear HB; intro BK196 BK202 HB BK208 GW208 GE208 NB196_208 NB208_196 NB202_208 NB208_202; clear hb hbox hg; have hnb50 := NB208_196.out; have hnc50 := NB196_208.out; have hnb51 := NB208_202.out; have hnc51 := NB202_208.out; have hcz52_0 := bc BK208 0 rfl; have hcz52_1 := bc BK208 1 rfl; have hfz52_0 := blk_frozen BK208.out 0; have hfz52_1 := blk_frozen BK208.out 1))
               have n0_ : Aside0 (((w49.setCell ⟨gb208, 0, none⟩ (.int .u64 t205)).setCell ⟨gb208, 1, none⟩ (.int .u64 t206)).heap[gb196]? = some (.cells #[.int .u64 t194, .int .u64 t195] 58 (0, 0))) := ⟨by (with_reducible repeat (first | refine blk_drewN ?_ _ | refine blk_drew ?_ | refine blk_alloc ?_ _)); refine blk_far ?_ NB196_208.out _; (with_reducible repeat (first | refine blk_drewN ?_ _ | refine blk_drew ?_ | refine blk_alloc ?_ _)); refine blk_far ?_ NB196_208.out _; (with_reducible repeat (first | refine blk_drewN ?_ _ | refine blk_drew ?_ | refine blk_alloc ?_ _)); exact BK196.out⟩
               have n1_ : Aside0 (((w49.setCell ⟨gb208, 0, none⟩ (.int .u64 t205)).setCell ⟨gb208, 1, none⟩ (.int .u64 t206)).heap[gb202]? = some (.cells #[.int .u64 t199, .int .u64 t200] 58 (0, 0))) := ⟨by (with_reducible repeat (first | refine blk_drewN ?_ _ | refine blk_drew ?_ | refine blk_alloc ?_ _)); refine blk_far ?_ NB202_208.out _; (with_reducible repeat (first | refine blk_drewN ?_ _ | refine blk_drew ?_ | refine blk_alloc ?_ _)); refine blk_far ?_ NB202_208.out _; (with_reducible repeat (first | refine blk_drewN ?_ _ | refine blk_drew ?_ | refine blk_alloc ?_ _)); exact BK202.out⟩
               have n2_ : Aside0 (((w49.setCell ⟨gb208, 0, none⟩ (.int .u64 t205)).setCell ⟨gb208, 1, none⟩ (.int .u64 t206)).heap[gb208]? = some (.cells #[.int .u64 t205, .int .u64 t206] 58 (0, 0))) := ⟨by (with_reducible repeat (first | refine blk_drewN ?_ _ | refine blk_drew ?_ | refine blk_alloc ?_ _)); refine blk_put (cs := #[.int .u64 t205, .int .u64 0]) ?_ 1 _ rfl; (with_reducible repeat (first | refine blk_drewN ?_ _ | refine blk_drew ?_ | refine blk_alloc ?_ _)); refine blk_put (cs := #[.int .u64 0, .int .u64 0]) ?_ 0 _ rfl; (with_reducible repeat (first | refine blk_drewN ?_ _ | refine blk_drew ?_ | refine blk_alloc ?_ _)); exact BK208.out⟩
               have n3_ : Aside0 (Below w.heap.size w ((w49.setCell ⟨gb208, 0, none⟩ (.int .u64 t205)).setCell ⟨gb208, 1, none⟩ (.int .u64 t206))) := ⟨bes⟩
               (try clear BK196)
               (try clear BK202)
               (try clear BK208)
               (try clear HB)
               generalize ((w49.setCell ⟨gb208, 0, none⟩ (.int .u64 t205)).setCell ⟨gb208, 1, none⟩ (.int .u64 t206)) = w53 at n0_ n1_ n2_ n3_ ⊢
               have BK196 := n0_
               have BK202 := n1_
               have BK208 := n2_
               have HB := n3_
               clear n0_ n1_ n2_ n3_
               refine ax4 (blk_drew BK196.out) (blk_drew BK202.out) (blk_drew BK208.out) (below_drew1 HB.out) ?_
               clear BK196 BK202 BK208 HB
               intro BK196 BK202 BK208 HB
               refine start_ (n := 11) (S := fun w' => w'.cell? ⟨gb208, 0, none⟩ = some (.int .u64 t205) ∧ w'.cell? ⟨gb208, 1, none⟩ = some (.int .u64 t206)) (ds := []) #[false, false, false, false, false, false, false, false, false, false, false] (by kernel_rfl) rfl rfl ⟨(blk_cell BK208.out 0).trans rfl, (blk_cell BK208.out 1).trans rfl⟩ (fun hHeld => ?_); refine with_tabW soft_Add.tab25 soft_Add.bits25 (fun HT_ HW_ => ?_)
               generalize w53.drew = w54 at BK196 BK202 BK208 HB hHeld ⊢
               refine pure_ (i := 0) (N := some 116) (v := ?_) (a' := ?_) #[true, false, false, false, false, false, false, false, false, false, false] rfl rfl (any_of HT_.out (by kernel_rfl)) (fun _ _ _ h => h) (Or.inl ⟨by rfl, ?_⟩) ?_ ?_
               rotate_left
               ·
                intro w'
                go_simp
                with_reducible rfl
               rotate_left
               ·
                simp only [Act.put, sa0, sa1, sa2, i64_w, i32_w]
                rfl
               refine pure_ (i := 3) (N := some 119) (v := ?_) (a' := ?_) #[true, false, false, true, false, false, false, false, false, false, false] rfl rfl (any_of HT_.out (by kernel_rfl)) (fun _ _ _ h => h) (Or.inl ⟨by rfl, ?_⟩) ?_ ?_
               rotate_left
               ·
                intro w'
                go_simp
                with_reducible rfl
               rotate_left
               ·
                simp only [Act.put, sa0, sa1, sa2, i64_w, i32_w]
                rfl
               refine pure_ (i := 4) (N := some 120) (v := ?_) (a' := ?_) #[true, false, false, true, true, false, false, false, false, false, false] rfl rfl (any_of HT_.out (by kernel_rfl)) (fun _ _ _ h => h) (Or.inl ⟨by rfl, ?_⟩) ?_ ?_
               rotate_left
               ·
                intro w'
                go_simp
                with_reducible rfl
               rotate_left
               ·
                simp only [Act.put, sa0, sa1, sa2, i64_w, i32_w]
                rfl
               refine pure_ (i := 5) (N := some 121) (v := ?_) (a' := ?_) #[true, false, false, true, true, true, false, false, false, false, false] rfl rfl (any_of HT_.out (by kernel_rfl)) (fun _ _ _ h => h) (Or.inl ⟨by rfl, ?_⟩) ?_ ?_
               rotate_left
               ·
                intro w'
                go_simp
                with_reducible rfl
               rotate_left
               ·
                simp only [Act.put, sa0, sa1, sa2, i64_w, i32_w]
                rfl
               refine take_ (i := 2) (N := some 118) (v := ?_) (a' := ?_) #[true, false, true, true, true, true, false, false, false, false, false] rfl rfl (take_ofW HT_.out HW_.out (by kernel_rfl)) (fun _ _ _ h => h) (Or.inl ⟨by rfl, ?_⟩) hHeld ?_ ?_
               rotate_left
               ·
                rintro w' ⟨s0, s1⟩
                go_simp
                with_reducible rfl
               rotate_left
               ·
                simp only [Act.put, sa0, sa1, sa2, i64_w, i32_w]
                rfl
               refine one_ (i := 1) (N := some 117) #[true, true, true, true, true, true, false, false, false, false, false] rfl rfl (one_of HT_.out (by kernel_rfl)) (by decide) (fun K hK => ?_)
               refine goes_ Try.func28 (by kernel_rfl) rfl #[.int .u64 x0_25] (by rfl) rfl rfl ga ?_
               with_reducible refine (word_Neg.calls x0_25 t209 _ A37.out).mono ?_
               rintro e w' ⟨rfl, ⟨nd, rfl⟩⟩
               refine ⟨_, rfl, ?_⟩
               refine hK.out _ _ ⟨(blk_cell BK208.out 0).trans rfl, (blk_cell BK208.out 1).trans rfl⟩ (fun hHeld => ?_)
               clear hK K
               refine norm_ (a' := ?_) ?_ ?_
               rotate_left
               ·
                show Act.put _ (some 117) _ = _
                simp only [Act.put, sa0, sa1, sa2, i64_w, i32_w]
                rfl
               refine one_ (i := 6) (N := some 122) #[true, true, true, true, true, true, true, false, false, false, false] rfl rfl (one_of HT_.out (by kernel_rfl)) (by decide) (fun K hK => ?_)
               refine goes_ Try.func27 (by kernel_rfl) rfl #[.bool t209, .agg #[.int .u64 t205, .int .u64 t206], .int .i64 (wrap64 (t191 - 64)), .bool t201] (by rfl) rfl rfl ga ?_
               with_reducible refine (round_Round.calls kj25 t209 t205 t206 (wrap64 (t191 - 64)) t201 t210 t211 _ A38.out).mono ?_
               rintro e w55 ⟨rfl, hb⟩
               refine ⟨_, rfl, ?_⟩
               refine ax4 (bb BK196 hb) (bb BK202 hb) (bb BK208 hb) (below_step bes hb) ?_
               clear BK196 BK202 BK208 HB
               intro BK196 BK202 BK208 HB
               (try clear hb)
               (try clear hb2)
               (try clear hk)
               (try clear hi)
               refine hK.out _ _ ⟨(blk_cell BK208.out 0).trans rfl, (blk_cell BK208.out 1).trans rfl⟩ (fun hHeld => ?_)
               clear hK K
               refine norm_ (a' := ?_) ?_ ?_
               rotate_left
               ·
                show Act.put _ (some 122) _ = _
                simp only [Act.put, sa0, sa1, sa2, i64_w, i32_w]
                rfl
               refine pure_ (i := 7) (N := some 123) (v := ?_) (a' := ?_) #[true, true, true, true, true, true, true, true, false, false, false] rfl rfl (any_of HT_.out (by kernel_rfl)) (fun _ _ _ h => h) (Or.inl ⟨by rfl, ?_⟩) ?_ ?_
               rotate_left
               ·
                intro w'
                go_simp
                with_reducible rfl
               rotate_left
               ·
                simp only [Act.put, sa0, sa1, sa2, i64_w, i32_w]
                rfl
               refine pure_ (i := 8) (N := some 124) (v := ?_) (a' := ?_) #[true, true, true, true, true, true, true, true, true, false, false] rfl rfl (any_of HT_.out (by kernel_rfl)) (fun _ _ _ h => h) (Or.inl ⟨by rfl, ?_⟩) ?_ ?_
               rotate_left
               ·
                intro w'
                go_simp
                with_reducible rfl
               rotate_left
               ·
                simp only [Act.put, sa0, sa1, sa2, i64_w, i32_w]
                rfl
               refine pure_ (i := 9) (N := some 4) (v := ?_) (a' := ?_) #[true, true, true, true, true, true, true, true, true, true, false] rfl rfl (any_of HT_.out (by kernel_rfl)) (fun _ _ _ h => h) (Or.inl ⟨by rfl, ?_⟩) ?_ ?_
               rotate_left
               ·
                intro w'
                go_simp
                with_reducible rfl
               rotate_left
               ·
                simp only [Act.put, sa0, sa1, sa2, i64_w, i32_w]
                rfl
               refine pure_ (i := 10) (N := some 5) (v := ?_) (a' := ?_) #[true, true, true, true, true, true, true, true, true, true, true] rfl rfl (any_of HT_.out (by kernel_rfl)) (fun _ _ _ h => h) (Or.inl ⟨by rfl, ?_⟩) ?_ ?_
               rotate_left
               ·
                intro w'
                go_simp
                with_reducible rfl
               rotate_left
               ·
                simp only [Act.put, sa0, sa1, sa2, i64_w, i32_w]
                rfl
               refine done_ (done_of HT_.out (by kernel_rfl)) ?_
               try go_wp2
               go_ret2
               exact ⟨er, bes⟩
              ·
               rw [if_neg c35] at H
               have c35b0 : (t203 == t204) = false := by simpa using c35
               (try (have c35b1 : decide (t203 = t204) = false := by simpa using c35))
               (try (have c35b2 : (t203 == t204) = false := by simpa using c35))
               (try (have c35b3 : ¬ (t203 = t204) := by simpa using c35))
               clear c35
               have HC56 := Aside0.mk H
               clear H
               go_upto_if 125 with (first | ((with_reducible refine gate_callee (f := 24) rfl ?_); refine goesL_ (some 84) rfl rfl Try.func24 (by kernel_rfl) rfl #[.int .u64 x0_25] rfl ga ?_; (with_reducible refine (word_Parts.calls kj25 x0_25 t190 t191 _ A28.out).mono ?_); rintro e w' ⟨rfl, ⟨nd, rfl⟩⟩; refine ⟨_, rfl, ?_⟩; (try (rw [drewN_self wc]; generalize hq_ : World.drewN wc _ = wc; have n0_ : Aside0 (Below w.heap.size w wc) := ⟨by rw [← hq_]; exact bel⟩; clear HB hq_; have HB := n0_; clear n0_))) | ((with_reducible refine gate_callee (f := 24) rfl ?_); refine goesL_ (some 89) rfl rfl Try.func24 (by kernel_rfl) rfl #[.int .u64 x1_25] rfl ga ?_; (with_reducible refine (word_Parts.calls kj25 x1_25 t192 t193 _ A29.out).mono ?_); rintro e w' ⟨rfl, ⟨nd, rfl⟩⟩; refine ⟨_, rfl, ?_⟩; (try (rw [drewN_self wc]; generalize hq_ : World.drewN wc _ = wc; have n0_ : Aside0 (Below w.heap.size w wc) := ⟨by rw [← hq_]; exact bel⟩; clear HB hq_; have HB := n0_; clear n0_))) | ((with_reducible refine gate_callee (f := 33) rfl ?_); refine goesL_ (some 94) rfl rfl Try.func33 (by kernel_rfl) rfl #[.agg #[.int .u64 0, .int .u64 t190], .int .i64 64] rfl ga ?_; (with_reducible refine (wide_Wide_Left.calls 0 t190 64 t194 t195 _ A30.out).mono ?_); rintro e w57 ⟨rfl, hb⟩; refine ⟨_, rfl, ?_⟩; refine ax1 (below_step bel hb) ?_; clear HB; intro HB; (try clear hb)) | ((with_reducible refine gate_dst (N := 15) rfl ?_); refine gbox (N := 15) (cs := #[.int .u64 0, .int .u64 0]) (t := 58) ?_; intro gb196 hg w58 hbox hb; refine ax4 (below_step bel hb) hbox ((ge hg : w.heap.size ≤ gb196)) ((ge hg : w.heap.size ≤ gb196)) ?_; clear HB; intro HB BK196 GW196 GE196; clear hb hbox hg; have hcz59_0 := bc BK196 0 rfl; have hcz59_1 := bc BK196 1 rfl; have hfz59_0 := blk_frozen BK196.out 0; have hfz59_1 := blk_frozen BK196.out 1) | ((with_reducible refine gate_callee (f := 33) rfl ?_); refine goesL_ (some 98) rfl rfl Try.func33 (by kernel_rfl) rfl #[.agg #[.int .u64 0, .int .u64 t192], .int .i64 64] rfl ga ?_; (with_reducible refine (wide_Wide_Left.calls 0 t192 64 t197 t198 _ A31.out).mono ?_); rintro e w60 ⟨rfl, hb⟩; refine ⟨_, rfl, ?_⟩; refine ax2 (blk_below (g := gb196) (o := .cells #[.int .u64 t194, .int .u64 t195] 58 (0, 0)) (by (with_reducible repeat (first | refine blk_drewN ?_ _ | refine blk_drew ?_ | refine blk_alloc ?_ _)); refine blk_put (cs := #[.int .u64 t194, .int .u64 0]) ?_ 1 _ rfl; (with_reducible repeat (first | refine blk_drewN ?_ _ | refine blk_drew ?_ | refine blk_alloc ?_ _)); refine blk_put (cs := #[.int .u64 0, .int .u64 0]) ?_ 0 _ rfl; (with_reducible repeat (first | refine blk_drewN ?_ _ | refine blk_drew ?_ | refine blk_alloc ?_ _)); exact BK196.out) hb) (below_step bes hb) ?_; clear BK196; clear HB; intro BK196 HB; (try clear hb)) | ((with_reducible refine gate_callee (f := 41) rfl ?_); refine goesL_ (some 102) rfl rfl Try.func41 (by kernel_rfl) rfl #[.agg #[.int .u64 t197, .int .u64 t198], .int .i64 (wrap64 (t191 - t193))] rfl ga ?_; (with_reducible refine (wide_Wide_Right.calls kj25 t197 t198 (wrap64 (t191 - t193)) t199 t200 t201 _ A32.out).mono ?_); rintro e w61 ⟨rfl, hb⟩; refine ⟨_, rfl, ?_⟩; refine ax2 (bb BK196 hb) (below_step bes hb) ?_; clear BK196; clear HB; intro BK196 HB; (try clear hb)) | ((with_reducible refine gate_dst (N := 16) rfl ?_); refine gbox (N := 16) (cs := #[.int .u64 0, .int .u64 0]) (t := 58) ?_; intro gb202 hg w62 hbox hb; refine ax7 (bb BK196 hb) (below_step bes hb) hbox ((ge hg : w.heap.size ≤ gb202)) ((ge hg : w.heap.size ≤ gb202)) (nl hg BK196) (ng hg BK196) ?_; clear BK196; clear HB; intro BK196 HB BK202 GW202 GE202 NB196_202 NB202_196; clear hb hbox hg; have hnb63 := NB202_196.out; have hnc63 := NB196_202.out; have hcz64_0 := bc BK202 0 rfl; have hcz64_1 := bc BK202 1 rfl; have hfz64_0 := blk_frozen BK202.out 0; have hfz64_1 := blk_frozen BK202.out 1) | ((with_reducible refine gate_callee (f := 28) rfl ?_); refine goesL_ (some 106) rfl rfl Try.func28 (by kernel_rfl) rfl #[.int .u64 x0_25] rfl ga ?_; (with_reducible refine (word_Neg.calls x0_25 t203 _ A33.out).mono ?_); rintro e w' ⟨rfl, ⟨nd, rfl⟩⟩; refine ⟨_, rfl, ?_⟩) | ((with_reducible refine gate_callee (f := 28) rfl ?_); refine goesL_ (some 108) rfl rfl Try.func28 (by kernel_rfl) rfl #[.int .u64 x1_25] rfl ga ?_; (with_reducible refine (word_Neg.calls x1_25 t204 _ A34.out).mono ?_); rintro e w' ⟨rfl, ⟨nd, rfl⟩⟩; refine ⟨_, rfl, ?_⟩))
               (try simp only [Act.put, sa0, sa1, sa2])
               go_cut [] (fun wc => ∃ (kq : Nat) (x203000_55 : Int) (x203001_55 : Int), Aside0 (soft_Add.j3 kq x0_25 t191 t201 t194 t195 x203000_55 x203001_55 = some (r1, r2)) ∧ Aside0 (kq ≤ kj25) ∧ Aside0 (wc.heap[gb196]? = some (.cells #[.int .u64 t194, .int .u64 t195] 58 (0, 0))) ∧ Aside0 (wc.heap[gb202]? = some (.cells #[.int .u64 x203000_55, .int .u64 x203001_55] 58 (0, 0))) ∧ Aside0 (Below w.heap.size w wc))
               case first =>
                have H := HC56.out
                clear HC56
                by_cases c65 : t201 = true
                rotate_left
                ·
                 replace c65 := Bool.eq_false_iff.mpr c65
                 subst c65
                 rw [if_neg (show ¬ (false = true) by decide)] at H
                 have H' := Aside0.mk H
                 clear H
                 go_wp2
                 go_meet
                 case rel => exact ⟨_, (t199), (t200), H', ⟨by have := HJ9.out; have := HJ18.out; have := HJ25.out; first | omega | exact Nat.le_refl _⟩, ⟨by (with_reducible repeat (first | refine blk_drewN ?_ _ | refine blk_drew ?_ | refine blk_alloc ?_ _)); refine blk_far ?_ NB196_202.out _; (with_reducible repeat (first | refine blk_drewN ?_ _ | refine blk_drew ?_ | refine blk_alloc ?_ _)); refine blk_far ?_ NB196_202.out _; (with_reducible repeat (first | refine blk_drewN ?_ _ | refine blk_drew ?_ | refine blk_alloc ?_ _)); exact BK196.out⟩, ⟨by (with_reducible repeat (first | refine blk_drewN ?_ _ | refine blk_drew ?_ | refine blk_alloc ?_ _)); refine blk_put (cs := #[.int .u64 t199, .int .u64 0]) ?_ 1 _ rfl; (with_reducible repeat (first | refine blk_drewN ?_ _ | refine blk_drew ?_ | refine blk_alloc ?_ _)); refine blk_put (cs := #[.int .u64 0, .int .u64 0]) ?_ 0 _ rfl; (with_reducible repeat (first | refine blk_drewN ?_ _ | refine blk_drew ?_ | refine blk_alloc ?_ _)); exact BK202.out⟩, ⟨bes⟩⟩
                subst c65
                rw [if_pos rfl] at H
                obtain ⟨⟨t212, t213, t214⟩, A660, H⟩ := Option.bind_eq_some_iff.mp H
                (try dsimp -simprocs only at H)
                have A66 := Aside0.mk A660
                clear A660
                have H' := Aside0.mk H
                clear H
                have hnb67 := NB202_196.out
                have hnc67 := NB196_202.out
                have hcz68_0 := bc BK202 0 rfl
                have hcz68_1 := bc BK202 1 rfl
                have hfz68_0 := blk_frozen BK202.out 0
                have hfz68_1 := blk_frozen BK202.out 1
                go_wp2_with (first | ((with_reducible refine gate_callee (f := 43) rfl ?_); refine goesL_ (some 129) rfl rfl Try.func43 (by kernel_rfl) rfl #[.agg #[.int .u64 t199, .int .u64 t200], .agg #[.int .u64 0, .int .u64 1]] rfl ga ?_; (with_reducible refine (wide_Wide_Add.calls t199 t200 0 1 t212 t213 t214 _ A66.out).mono ?_); rintro e w69 ⟨rfl, hb⟩; refine ⟨_, rfl, ?_⟩; refine ax3 (blk_below (g := gb196) (o := .cells #[.int .u64 t194, .int .u64 t195] 58 (0, 0)) (by (with_reducible repeat (first | refine blk_drewN ?_ _ | refine blk_drew ?_ | refine blk_alloc ?_ _)); refine blk_far ?_ NB196_202.out _; (with_reducible repeat (first | refine blk_drewN ?_ _ | refine blk_drew ?_ | refine blk_alloc ?_ _)); refine blk_far ?_ NB196_202.out _; (with_reducible repeat (first | refine blk_drewN ?_ _ | refine blk_drew ?_ | refine blk_alloc ?_ _)); exact BK196.out) hb) (blk_below (g := gb202) (o := .cells #[.int .u64 t199, .int .u64 t200] 58 (0, 0)) (by (with_reducible repeat (first | refine blk_drewN ?_ _ | refine blk_drew ?_ | refine blk_alloc ?_ _)); refine blk_put (cs := #[.int .u64 t199, .int .u64 0]) ?_ 1 _ rfl; (with_reducible repeat (first | refine blk_drewN ?_ _ | refine blk_drew ?_ | refine blk_alloc ?_ _)); refine blk_put (cs := #[.int .u64 0, .int .u64 0]) ?_ 0 _ rfl; (with_reducible repeat (first | refine blk_drewN ?_ _ | refine blk_drew ?_ | refine blk_alloc ?_ _)); exact BK202.out) hb) (below_step bes hb) ?_; clear BK196; clear BK202; clear HB; intro BK196 BK202 HB; (try clear hb); have hcz70_0 := bc BK202 0 rfl; have hcz70_1 := bc BK202 1 rfl; have hfz70_0 := blk_frozen BK202.out 0; have hfz70_1 := blk_frozen BK202.out 1))
                go_meet
                case rel => exact ⟨_, (t212), (t213), H', ⟨by have := HJ9.out; have := HJ18.out; have := HJ25.out; first | omega | exact Nat.le_refl _⟩, ⟨by (with_reducible repeat (first | refine blk_drewN ?_ _ | refine blk_drew ?_ | refine blk_alloc ?_ _)); refine blk_far ?_ NB196_202.out _; (with_reducible repeat (first | refine blk_drewN ?_ _ | refine blk_drew ?_ | refine blk_alloc ?_ _)); refine blk_far ?_ NB196_202.out _; (with_reducible repeat (first | refine blk_drewN ?_ _ | refine blk_drew ?_ | refine blk_alloc ?_ _)); exact BK196.out⟩, ⟨by (with_reducible repeat (first | refine blk_drewN ?_ _ | refine blk_drew ?_ | refine blk_alloc ?_ _)); refine blk_put (cs := #[.int .u64 t212, .int .u64 t200]) ?_ 1 _ rfl; (with_reducible repeat (first | refine blk_drewN ?_ _ | refine blk_drew ?_ | refine blk_alloc ?_ _)); refine blk_put (cs := #[.int .u64 t199, .int .u64 t200]) ?_ 0 _ rfl; (with_reducible repeat (first | refine blk_drewN ?_ _ | refine blk_drew ?_ | refine blk_alloc ?_ _)); exact BK202.out⟩, ⟨bes⟩⟩
               case rest =>
                clear HC56
                try clear c1
                try clear c2
                try clear p2
                try clear c3
                try clear c4
                try clear c5
                try clear c6
                try clear p6
                try clear c14
                try clear c14b0
                try clear c14b1
                try clear c15
                try clear c15b0
                try clear c15b1
                try clear c16
                try clear c17
                try clear c17b0
                try clear c17b1
                try clear c18
                try clear c18b0
                try clear c18b1
                try clear c20
                try clear c20b0
                try clear c20b1
                try clear c21
                try clear c22
                try clear c22b0
                try clear c22b1
                try clear c23
                try clear c23b0
                try clear c23b1
                try clear c24
                try clear c25
                try clear c27
                try clear c27b0
                try clear c28
                try clear c30
                try clear c33
                try clear c35
                try clear c35b0
                try clear c35b1
                try clear c35b2
                try clear c41
                try clear c43
                try clear c44
                try clear c45
                try clear c50
                try clear c51
                try clear c63
                try clear p64
                try clear c65
                try clear c67
                try clear hcz41_0
                try clear hcz41_1
                try clear hcz46_0
                try clear hcz46_1
                try clear hcz47_0
                try clear hcz47_1
                try clear hcz52_0
                try clear hcz52_1
                try clear hcz59_0
                try clear hcz59_1
                try clear hcz64_0
                try clear hcz64_1
                try clear hcz68_0
                try clear hcz68_1
                try clear hcz70_0
                try clear hcz70_1
                try clear hfz41_0
                try clear hfz41_1
                try clear hfz46_0
                try clear hfz46_1
                try clear hfz47_0
                try clear hfz47_1
                try clear hfz52_0
                try clear hfz52_1
                try clear hfz59_0
                try clear hfz59_1
                try clear hfz64_0
                try clear hfz64_1
                try clear hfz68_0
                try clear hfz68_1
                try clear hfz70_0
                try clear hfz70_1
                try clear p2
                obtain ⟨kq, x203000_55, x203001_55, HA, HJ55, BK196, BK202, HB⟩ := hcut
                cases kq with
                | zero => exact absurd HA.out (by simp [soft_Add.j3])
                | succ kj55 =>
                 have H := HA.out
                 clear HA
                 simp only [soft_Add.j3] at H
                 obtain ⟨⟨t215, t216, t217⟩, A710, H⟩ := Option.bind_eq_some_iff.mp H
                 (try dsimp -simprocs only at H)
                 have A71 := Aside0.mk A710
                 clear A710
                 have HC72 := Aside0.mk H
                 clear H
                 have hnb73 := NB196_202.out
                 have hnc73 := NB202_196.out
                 have hcz74_0 := bc BK196 0 rfl
                 have hcz74_1 := bc BK196 1 rfl
                 have hfz74_0 := blk_frozen BK196.out 0
                 have hfz74_1 := blk_frozen BK196.out 1
                 have hcz75_0 := bc BK202 0 rfl
                 have hcz75_1 := bc BK202 1 rfl
                 have hfz75_0 := blk_frozen BK202.out 0
                 have hfz75_1 := blk_frozen BK202.out 1
                 go_upto_region 29 with (first | ((with_reducible refine gate_callee (f := 45) rfl ?_); refine goesL_ (some 135) rfl rfl Try.func45 (by kernel_rfl) rfl #[.agg #[.int .u64 t194, .int .u64 t195], .agg #[.int .u64 x203000_55, .int .u64 x203001_55]] rfl ga ?_; (with_reducible refine (wide_Wide_Sub.calls t194 t195 x203000_55 x203001_55 t215 t216 t217 _ A71.out).mono ?_); rintro e w76 ⟨rfl, hb⟩; refine ⟨_, rfl, ?_⟩; refine ax3 (bb BK196 hb) (bb BK202 hb) (below_step bes hb) ?_; clear BK196; clear BK202; clear HB; intro BK196 BK202 HB; (try clear hb)) | ((with_reducible refine gate_dst (N := 20) rfl ?_); refine gbox (N := 20) (cs := #[.int .u64 0, .int .u64 0]) (t := 58) ?_; intro gb218 hg w77 hbox hb; refine ax10 (bb BK196 hb) (bb BK202 hb) (below_step bes hb) hbox ((ge hg : w.heap.size ≤ gb218)) ((ge hg : w.heap.size ≤ gb218)) (nl hg BK196) (ng hg BK196) (nl hg BK202) (ng hg BK202) ?_; clear BK196; clear BK202; clear HB; intro BK196 BK202 HB BK218 GW218 GE218 NB196_218 NB218_196 NB202_218 NB218_202; clear hb hbox hg; have hnb78 := NB218_196.out; have hnc78 := NB196_218.out; have hnb79 := NB218_202.out; have hnc79 := NB202_218.out; have hcz80_0 := bc BK218 0 rfl; have hcz80_1 := bc BK218 1 rfl; have hfz80_0 := blk_frozen BK218.out 0; have hfz80_1 := blk_frozen BK218.out 1))
                 (try simp only [Act.put, sa0, sa1, sa2])
                 go_cut [143] (fun v143 wc => ∃ (kq : Nat) (x143_71 : Bool), v143 = .bool x143_71 ∧ Aside0 (soft_Add.j4 kq x0_25 t191 t201 x143_71 t215 t216 = some (r1, r2)) ∧ Aside0 (kq ≤ kj55) ∧ Aside0 (wc.heap[gb196]? = some (.cells #[.int .u64 t194, .int .u64 t195] 58 (0, 0))) ∧ Aside0 (wc.heap[gb202]? = some (.cells #[.int .u64 x203000_55, .int .u64 x203001_55] 58 (0, 0))) ∧ Aside0 (wc.heap[gb218]? = some (.cells #[.int .u64 t215, .int .u64 t216] 58 (0, 0))) ∧ Aside0 (Below w.heap.size w wc))
                 case first =>
                  have H := HC72.out
                  clear HC72
                  obtain ⟨t219, A810, H⟩ := Option.bind_eq_some_iff.mp H
                  (try dsimp -simprocs only at H)
                  have A81 := Aside0.mk A810
                  clear A810
                  by_cases c82 : t219 = true
                  ·
                   subst c82
                   rw [if_pos rfl] at H
                   have H' := Aside0.mk H
                   clear H
                   have hnb83 := NB218_196.out
                   have hnc83 := NB196_218.out
                   have hnb84 := NB218_202.out
                   have hnc84 := NB202_218.out
                   have hcz85_0 := bc BK218 0 rfl
                   have hcz85_1 := bc BK218 1 rfl
                   have hfz85_0 := blk_frozen BK218.out 0
                   have hfz85_1 := blk_frozen BK218.out 1
                   go_wp2_with (first | ((with_reducible refine gate_callee (f := 38) rfl ?_); refine goesL_ (some 139) rfl rfl Try.func38 (by kernel_rfl) rfl #[.agg #[.int .u64 t215, .int .u64 t216]] rfl ga ?_; (with_reducible refine (wide_Wide_Zero.calls t215 t216 true _ A81.out).mono ?_); rintro e w86 ⟨rfl, hb⟩; refine ⟨_, rfl, ?_⟩; refine ax4 (blk_below (g := gb196) (o := .cells #[.int .u64 t194, .int .u64 t195] 58 (0, 0)) (by (with_reducible repeat (first | refine blk_drewN ?_ _ | refine blk_drew ?_ | refine blk_alloc ?_ _)); refine blk_far ?_ NB196_218.out _; (with_reducible repeat (first | refine blk_drewN ?_ _ | refine blk_drew ?_ | refine blk_alloc ?_ _)); refine blk_far ?_ NB196_218.out _; (with_reducible repeat (first | refine blk_drewN ?_ _ | refine blk_drew ?_ | refine blk_alloc ?_ _)); exact BK196.out) hb) (blk_below (g := gb202) (o := .cells #[.int .u64 x203000_55, .int .u64 x203001_55] 58 (0, 0)) (by (with_reducible repeat (first | refine blk_drewN ?_ _ | refine blk_drew ?_ | refine blk_alloc ?_ _)); refine blk_far ?_ NB202_218.out _; (with_reducible repeat (first | refine blk_drewN ?_ _ | refine blk_drew ?_ | refine blk_alloc ?_ _)); refine blk_far ?_ NB202_218.out _; (with_reducible repeat (first | refine blk_drewN ?_ _ | refine blk_drew ?_ | refine blk_alloc ?_ _)); exact BK202.out) hb) (blk_below (g := gb218) (o := .cells #[.int .u64 t215, .int .u64 t216] 58 (0, 0)) (by (with_reducible repeat (first | refine blk_drewN ?_ _ | refine blk_drew ?_ | refine blk_alloc ?_ _)); refine blk_put (cs := #[.int .u64 t215, .int .u64 0]) ?_ 1 _ rfl; (with_reducible repeat (first | refine blk_drewN ?_ _ | refine blk_drew ?_ | refine blk_alloc ?_ _)); refine blk_put (cs := #[.int .u64 0, .int .u64 0]) ?_ 0 _ rfl; (with_reducible repeat (first | refine blk_drewN ?_ _ | refine blk_drew ?_ | refine blk_alloc ?_ _)); exact BK218.out) hb) (below_step bes hb) ?_; clear BK196; clear BK202; clear BK218; clear HB; intro BK196 BK202 BK218 HB; (try clear hb)))
                   go_meet
                   case rel => exact ⟨_, (!t201), (by first | rfl | (simp; done) | (simp [*]; done)), H', ⟨by have := HJ9.out; have := HJ18.out; have := HJ25.out; have := HJ55.out; first | omega | exact Nat.le_refl _⟩, ⟨kb BK196⟩, ⟨kb BK202⟩, ⟨kb BK218⟩, ⟨bes⟩⟩
                  ·
                   replace c82 := Bool.eq_false_iff.mpr c82
                   subst c82
                   rw [if_neg (show ¬ (false = true) by decide)] at H
                   have H' := Aside0.mk H
                   clear H
                   have hnb87 := NB218_196.out
                   have hnc87 := NB196_218.out
                   have hnb88 := NB218_202.out
                   have hnc88 := NB202_218.out
                   have hcz89_0 := bc BK218 0 rfl
                   have hcz89_1 := bc BK218 1 rfl
                   have hfz89_0 := blk_frozen BK218.out 0
                   have hfz89_1 := blk_frozen BK218.out 1
                   go_wp2_with (first | ((with_reducible refine gate_callee (f := 38) rfl ?_); refine goesL_ (some 139) rfl rfl Try.func38 (by kernel_rfl) rfl #[.agg #[.int .u64 t215, .int .u64 t216]] rfl ga ?_; (with_reducible refine (wide_Wide_Zero.calls t215 t216 false _ A81.out).mono ?_); rintro e w90 ⟨rfl, hb⟩; refine ⟨_, rfl, ?_⟩; refine ax4 (blk_below (g := gb196) (o := .cells #[.int .u64 t194, .int .u64 t195] 58 (0, 0)) (by (with_reducible repeat (first | refine blk_drewN ?_ _ | refine blk_drew ?_ | refine blk_alloc ?_ _)); refine blk_far ?_ NB196_218.out _; (with_reducible repeat (first | refine blk_drewN ?_ _ | refine blk_drew ?_ | refine blk_alloc ?_ _)); refine blk_far ?_ NB196_218.out _; (with_reducible repeat (first | refine blk_drewN ?_ _ | refine blk_drew ?_ | refine blk_alloc ?_ _)); exact BK196.out) hb) (blk_below (g := gb202) (o := .cells #[.int .u64 x203000_55, .int .u64 x203001_55] 58 (0, 0)) (by (with_reducible repeat (first | refine blk_drewN ?_ _ | refine blk_drew ?_ | refine blk_alloc ?_ _)); refine blk_far ?_ NB202_218.out _; (with_reducible repeat (first | refine blk_drewN ?_ _ | refine blk_drew ?_ | refine blk_alloc ?_ _)); refine blk_far ?_ NB202_218.out _; (with_reducible repeat (first | refine blk_drewN ?_ _ | refine blk_drew ?_ | refine blk_alloc ?_ _)); exact BK202.out) hb) (blk_below (g := gb218) (o := .cells #[.int .u64 t215, .int .u64 t216] 58 (0, 0)) (by (with_reducible repeat (first | refine blk_drewN ?_ _ | refine blk_drew ?_ | refine blk_alloc ?_ _)); refine blk_put (cs := #[.int .u64 t215, .int .u64 0]) ?_ 1 _ rfl; (with_reducible repeat (first | refine blk_drewN ?_ _ | refine blk_drew ?_ | refine blk_alloc ?_ _)); refine blk_put (cs := #[.int .u64 0, .int .u64 0]) ?_ 0 _ rfl; (with_reducible repeat (first | refine blk_drewN ?_ _ | refine blk_drew ?_ | refine blk_alloc ?_ _)); exact BK218.out) hb) (below_step bes hb) ?_; clear BK196; clear BK202; clear BK218; clear HB; intro BK196 BK202 BK218 HB; (try clear hb)))
                   go_meet
                   case rel => exact ⟨_, (false), (by first | rfl | (simp; done) | (simp [*]; done)), H', ⟨by have := HJ9.out; have := HJ18.out; have := HJ25.out; have := HJ55.out; first | omega | exact Nat.le_refl _⟩, ⟨kb BK196⟩, ⟨kb BK202⟩, ⟨kb BK218⟩, ⟨bes⟩⟩
                 case rest =>
                  clear HC72
                  try clear c1
                  try clear c2
                  try clear p2
                  try clear c3
                  try clear c4
                  try clear c5
                  try clear c6
                  try clear p6
                  try clear c7
                  try clear c8
                  try clear c14
                  try clear c14b0
                  try clear c14b1
                  try clear c15
                  try clear c15b0
                  try clear c15b1
                  try clear c16
                  try clear c17
                  try clear c17b0
                  try clear c17b1
                  try clear c18
                  try clear c18b0
                  try clear c18b1
                  try clear c20
                  try clear c20b0
                  try clear c20b1
                  try clear c21
                  try clear c22
                  try clear c22b0
                  try clear c22b1
                  try clear c23
                  try clear c23b0
                  try clear c23b1
                  try clear c24
                  try clear c25
                  try clear c27
                  try clear c27b0
                  try clear c28
                  try clear c30
                  try clear c33
                  try clear c35
                  try clear c35b0
                  try clear c35b1
                  try clear c35b2
                  try clear c38
                  try clear c41
                  try clear c43
                  try clear c44
                  try clear c45
                  try clear c50
                  try clear c51
                  try clear c63
                  try clear p64
                  try clear c65
                  try clear c67
                  try clear c73
                  try clear c78
                  try clear c79
                  try clear c82
                  try clear c83
                  try clear c84
                  try clear c87
                  try clear c88
                  try clear hcz41_0
                  try clear hcz41_1
                  try clear hcz46_0
                  try clear hcz46_1
                  try clear hcz47_0
                  try clear hcz47_1
                  try clear hcz52_0
                  try clear hcz52_1
                  try clear hcz59_0
                  try clear hcz59_1
                  try clear hcz64_0
                  try clear hcz64_1
                  try clear hcz68_0
                  try clear hcz68_1
                  try clear hcz70_0
                  try clear hcz70_1
                  try clear hcz74_0
                  try clear hcz74_1
                  try clear hcz75_0
                  try clear hcz75_1
                  try clear hcz80_0
                  try clear hcz80_1
                  try clear hcz85_0
                  try clear hcz85_1
                  try clear hcz89_0
                  try clear hcz89_1
                  try clear hfz41_0
                  try clear hfz41_1
                  try clear hfz46_0
                  try clear hfz46_1
                  try clear hfz47_0
                  try clear hfz47_1
                  try clear hfz52_0
                  try clear hfz52_1
                  try clear hfz59_0
                  try clear hfz59_1
                  try clear hfz64_0
                  try clear hfz64_1
                  try clear hfz68_0
                  try clear hfz68_1
                  try clear hfz70_0
                  try clear hfz70_1
                  try clear hfz74_0
                  try clear hfz74_1
                  try clear hfz75_0
                  try clear hfz75_1
                  try clear hfz80_0
                  try clear hfz80_1
                  try clear hfz85_0
                  try clear hfz85_1
                  try clear hfz89_0
                  try clear hfz89_1
                  try clear p2
                  try clear p6
                  try clear p64
                  obtain ⟨kq, x143_71, rfl, HA, HJ71, BK196, BK202, BK218, HB⟩ := hcut
                  cases kq with
                  | zero => exact absurd HA.out (by simp [soft_Add.j4])
                  | succ kj71 =>
                   have H := HA.out
                   clear HA
                   simp only [soft_Add.j4] at H
                   by_cases c91 : x143_71 = true
                   ·
                    subst c91
                    rw [if_pos rfl] at H
                    simp only [Option.some.injEq, Prod.mk.injEq] at H
                    obtain ⟨rfl, rfl⟩ := H
                    go_wp2
                    go_ret2
                    exact ⟨er, bes⟩
                   ·
                    replace c91 := Bool.eq_false_iff.mpr c91
                    subst c91
                    rw [if_neg (show ¬ (false = true) by decide)] at H
                    obtain ⟨t220, A920, H⟩ := Option.bind_eq_some_iff.mp H
                    (try dsimp -simprocs only at H)
                    have A92 := Aside0.mk A920
                    clear A920
                    obtain ⟨⟨t221, t222⟩, A930, H⟩ := Option.bind_eq_some_iff.mp H
                    (try dsimp -simprocs only at H)
                    have A93 := Aside0.mk A930
                    clear A930
                    simp only [Option.some.injEq, Prod.mk.injEq] at H
                    obtain ⟨rfl, rfl⟩ := H
                    try go_wp2
                    refine ax4 (blk_drew BK196.out) (blk_drew BK202.out) (blk_drew BK218.out) (below_drew1 HB.out) ?_
                    clear BK196 BK202 BK218 HB
                    intro BK196 BK202 BK218 HB
                    refine start_ (n := 11) (S := fun w' => w'.cell? ⟨gb218, 0, none⟩ = some (.int .u64 t215) ∧ w'.cell? ⟨gb218, 1, none⟩ = some (.int .u64 t216)) (ds := []) #[false, false, false, false, false, false, false, false, false, false, false] (by kernel_rfl) rfl rfl ⟨(blk_cell BK218.out 0).trans rfl, (blk_cell BK218.out 1).trans rfl⟩ (fun hHeld => ?_); refine with_tabW soft_Add.tab31 soft_Add.bits31 (fun HT_ HW_ => ?_)
                    generalize wc.drew = w94 at BK196 BK202 BK218 HB hHeld ⊢
                    refine pure_ (i := 0) (N := some 144) (v := ?_) (a' := ?_) #[true, false, false, false, false, false, false, false, false, false, false] rfl rfl (any_of HT_.out (by kernel_rfl)) (fun _ _ _ h => h) (Or.inl ⟨by rfl, ?_⟩) ?_ ?_
                    rotate_left
                    ·
                     intro w'
                     go_simp
                     with_reducible rfl
                    rotate_left
                    ·
                     simp only [Act.put, sa0, sa1, sa2, i64_w, i32_w]
                     rfl
                    refine pure_ (i := 3) (N := some 147) (v := ?_) (a' := ?_) #[true, false, false, true, false, false, false, false, false, false, false] rfl rfl (any_of HT_.out (by kernel_rfl)) (fun _ _ _ h => h) (Or.inl ⟨by rfl, ?_⟩) ?_ ?_
                    rotate_left
                    ·
                     intro w'
                     go_simp
                     with_reducible rfl
                    rotate_left
                    ·
                     simp only [Act.put, sa0, sa1, sa2, i64_w, i32_w]
                     rfl
                    refine pure_ (i := 4) (N := some 148) (v := ?_) (a' := ?_) #[true, false, false, true, true, false, false, false, false, false, false] rfl rfl (any_of HT_.out (by kernel_rfl)) (fun _ _ _ h => h) (Or.inl ⟨by rfl, ?_⟩) ?_ ?_
                    rotate_left
                    ·
                     intro w'
                     go_simp
                     with_reducible rfl
                    rotate_left
                    ·
                     simp only [Act.put, sa0, sa1, sa2, i64_w, i32_w]
                     rfl
                    refine pure_ (i := 5) (N := some 149) (v := ?_) (a' := ?_) #[true, false, false, true, true, true, false, false, false, false, false] rfl rfl (any_of HT_.out (by kernel_rfl)) (fun _ _ _ h => h) (Or.inl ⟨by rfl, ?_⟩) ?_ ?_
                    rotate_left
                    ·
                     intro w'
                     go_simp
                     with_reducible rfl
                    rotate_left
                    ·
                     simp only [Act.put, sa0, sa1, sa2, i64_w, i32_w]
                     rfl
                    refine take_ (i := 2) (N := some 146) (v := ?_) (a' := ?_) #[true, false, true, true, true, true, false, false, false, false, false] rfl rfl (take_ofW HT_.out HW_.out (by kernel_rfl)) (fun _ _ _ h => h) (Or.inl ⟨by rfl, ?_⟩) hHeld ?_ ?_
                    rotate_left
                    ·
                     rintro w' ⟨s0, s1⟩
                     go_simp
                     with_reducible rfl
                    rotate_left
                    ·
                     simp only [Act.put, sa0, sa1, sa2, i64_w, i32_w]
                     rfl
                    refine one_ (i := 1) (N := some 145) #[true, true, true, true, true, true, false, false, false, false, false] rfl rfl (one_of HT_.out (by kernel_rfl)) (by decide) (fun K hK => ?_)
                    refine goes_ Try.func28 (by kernel_rfl) rfl #[.int .u64 x0_25] (by rfl) rfl rfl ga ?_
                    with_reducible refine (word_Neg.calls x0_25 t220 _ A92.out).mono ?_
                    rintro e w' ⟨rfl, ⟨nd, rfl⟩⟩
                    refine ⟨_, rfl, ?_⟩
                    refine hK.out _ _ ⟨(blk_cell BK218.out 0).trans rfl, (blk_cell BK218.out 1).trans rfl⟩ (fun hHeld => ?_)
                    clear hK K
                    refine norm_ (a' := ?_) ?_ ?_
                    rotate_left
                    ·
                     show Act.put _ (some 145) _ = _
                     simp only [Act.put, sa0, sa1, sa2, i64_w, i32_w]
                     rfl
                    refine one_ (i := 6) (N := some 150) #[true, true, true, true, true, true, true, false, false, false, false] rfl rfl (one_of HT_.out (by kernel_rfl)) (by decide) (fun K hK => ?_)
                    refine goes_ Try.func27 (by kernel_rfl) rfl #[.bool t220, .agg #[.int .u64 t215, .int .u64 t216], .int .i64 (wrap64 (t191 - 64)), .bool t201] (by rfl) rfl rfl ga ?_
                    with_reducible refine (round_Round.calls kj71 t220 t215 t216 (wrap64 (t191 - 64)) t201 t221 t222 _ A93.out).mono ?_
                    rintro e w95 ⟨rfl, hb⟩
                    refine ⟨_, rfl, ?_⟩
                    refine ax4 (bb BK196 hb) (bb BK202 hb) (bb BK218 hb) (below_step bes hb) ?_
                    clear BK196 BK202 BK218 HB
                    intro BK196 BK202 BK218 HB
                    (try clear hb)
                    (try clear hb2)
                    (try clear hk)
                    (try clear hi)
                    refine hK.out _ _ ⟨(blk_cell BK218.out 0).trans rfl, (blk_cell BK218.out 1).trans rfl⟩ (fun hHeld => ?_)
                    clear hK K
                    refine norm_ (a' := ?_) ?_ ?_
                    rotate_left
                    ·
                     show Act.put _ (some 150) _ = _
                     simp only [Act.put, sa0, sa1, sa2, i64_w, i32_w]
                     rfl
                    refine pure_ (i := 7) (N := some 151) (v := ?_) (a' := ?_) #[true, true, true, true, true, true, true, true, false, false, false] rfl rfl (any_of HT_.out (by kernel_rfl)) (fun _ _ _ h => h) (Or.inl ⟨by rfl, ?_⟩) ?_ ?_
                    rotate_left
                    ·
                     intro w'
                     go_simp
                     with_reducible rfl
                    rotate_left
                    ·
                     simp only [Act.put, sa0, sa1, sa2, i64_w, i32_w]
                     rfl
                    refine pure_ (i := 8) (N := some 152) (v := ?_) (a' := ?_) #[true, true, true, true, true, true, true, true, true, false, false] rfl rfl (any_of HT_.out (by kernel_rfl)) (fun _ _ _ h => h) (Or.inl ⟨by rfl, ?_⟩) ?_ ?_
                    rotate_left
                    ·
                     intro w'
                     go_simp
                     with_reducible rfl
                    rotate_left
                    ·
                     simp only [Act.put, sa0, sa1, sa2, i64_w, i32_w]
                     rfl
                    refine pure_ (i := 9) (N := some 4) (v := ?_) (a' := ?_) #[true, true, true, true, true, true, true, true, true, true, false] rfl rfl (any_of HT_.out (by kernel_rfl)) (fun _ _ _ h => h) (Or.inl ⟨by rfl, ?_⟩) ?_ ?_
                    rotate_left
                    ·
                     intro w'
                     go_simp
                     with_reducible rfl
                    rotate_left
                    ·
                     simp only [Act.put, sa0, sa1, sa2, i64_w, i32_w]
                     rfl
                    refine pure_ (i := 10) (N := some 5) (v := ?_) (a' := ?_) #[true, true, true, true, true, true, true, true, true, true, true] rfl rfl (any_of HT_.out (by kernel_rfl)) (fun _ _ _ h => h) (Or.inl ⟨by rfl, ?_⟩) ?_ ?_
                    rotate_left
                    ·
                     intro w'
                     go_simp
                     with_reducible rfl
                    rotate_left
                    ·
                     simp only [Act.put, sa0, sa1, sa2, i64_w, i32_w]
                     rfl
                    refine done_ (done_of HT_.out (by kernel_rfl)) ?_
                    try go_wp2
                    go_ret2
                    exact ⟨er, bes⟩

/-! ### soft_Calc_Add: function 11 -/
def soft_Calc_Add.f (k : Nat) (s0_0 : Int) (a1 : Int) (a2 : Int) : Option (Int × Int) := (soft_Add.f k a1 a2).bind fun bt223 => ((soft_Calc_note.f s0_0 bt223.1 bt223.2).bind fun bt225 => (some (bt225.1, bt225.2)))
theorem soft_Calc_Add.mono : ∀ a0 a1 a2 k, LeO (soft_Calc_Add.f k a0 a1 a2) (soft_Calc_Add.f (k + 1) a0 a1 a2) := by
 intro a0 a1 a2 k
 unfold soft_Calc_Add.f
 repeat' with_reducible first | apply soft_Add.mono | exact LeO.refl _ | exact LeO.none _ | refine LeO.ite ?_ ?_ | refine LeO.bind ?_ (fun _ => ?_)
set_option maxHeartbeats 8000000 in
set_option maxRecDepth 100000 in
theorem soft_Calc_Add.calls (k : Nat) (g : Nat) (s0_0 : Int) (a1 : Int) (a2 : Int) (r1 : Int) (r2 : Int) (w0 w : World) (hI : IsS27 w0 w g s0_0) (hB : Below w0.heap.size w0 w) (h : soft_Calc_Add.f k s0_0 a1 a2 = some (r1, r2)) :
  Calls Try.prog 11 #[.pointer (some ⟨g, 0, none⟩), .int .u64 a1, .int .u64 a2] w fun e w' => e = .returned (.int .u64 r1) ∧ IsS27 w0 w' g r2 ∧ Below w0.heap.size w0 w' ∧ KeepBut w w' g none := by
 have HI0 := Aside0.mk hI
 have HK := Aside0.mk (KeepBut.refl w g none)
 have HL := Aside0.mk hB.size
 clear hI
 have HW0 := Aside0.mk hB.size
 have HB := Aside0.mk hB
 clear hB
 have H : ((soft_Add.f k a1 a2).bind fun bt223 => ((soft_Calc_note.f s0_0 bt223.1 bt223.2).bind fun bt225 => (some (bt225.1, bt225.2)))) = some (r1, r2) := h
 clear h
 obtain ⟨⟨t223, t224⟩, A40, H⟩ := Option.bind_eq_some_iff.mp H
 (try dsimp -simprocs only at H)
 have A4 := Aside0.mk A40
 clear A40
 obtain ⟨⟨t225, t226⟩, A50, H⟩ := Option.bind_eq_some_iff.mp H
 (try dsimp -simprocs only at H)
 have A5 := Aside0.mk A50
 clear A50
 simp only [Option.some.injEq, Prod.mk.injEq] at H
 obtain ⟨rfl, rfl⟩ := H
 go_enter Try.func11, Try.ntmps11
 go_wp2_with (first | ((with_reducible refine gate_callee (f := 30) rfl ?_); refine goesL_ (some 10) rfl rfl Try.func30 (by kernel_rfl) rfl #[.int .u64 a1, .int .u64 a2] rfl ga ?_; (with_reducible refine (soft_Add.calls k a1 a2 t223 t224 _ A4.out).mono ?_); rintro e w6 ⟨rfl, hb⟩; refine ⟨_, rfl, ?_⟩; refine ax3 (IsS27.below (by repeat (first | (with_reducible first | exact HI0.out | apply IsS27.alloc | apply IsS27.drewN | apply IsS27.drew | apply IsS27.set_0) | exact HI0.out)) hb) (KeepBut.trans (by repeat (first | (with_reducible first | exact HK.out | apply KeepBut.set_ | apply keep_drewN | apply keep_drew | apply keep_alloc) | exact HK.out)) (KeepBut.of_below hb g none) (.inl rfl)) (below_step (by repeat (first | (with_reducible first | exact HB.out | apply below_alloc | apply pw_below_drewN | apply below_drew1 | refine below_set ?_ (IsS27.ge HI0.out)) | exact HB.out)) hb) ?_; clear HI0; clear HK; clear HB; intro HI0 HK HB; (try clear hb)) | ((with_reducible refine gate_callee (f := 29) rfl ?_); refine goesL_ (some 13) rfl rfl Try.func29 (by kernel_rfl) rfl #[.pointer (some ⟨g, 0, none⟩), .int .u64 t223, .int .u8 t224] rfl ga ?_; (with_reducible refine (soft_Calc_note.calls g s0_0 t223 t224 t225 t226 w0 _ ?side1 ?side2 A5.out).mono ?_); (case side1 => repeat (first | (with_reducible first | exact HI0.out | apply IsS27.alloc | apply IsS27.drewN | apply IsS27.drew | apply IsS27.set_0) | exact HI0.out)); (case side2 => repeat (first | (with_reducible first | exact HB.out | apply below_alloc | apply pw_below_drewN | apply below_drew1 | refine below_set ?_ (IsS27.ge HI0.out)) | exact HB.out)); rintro e w7 ⟨rfl, hi, hb, hk⟩; refine ⟨_, rfl, ?_⟩; refine ax3 (KeepBut.trans (by repeat (first | (with_reducible first | exact HK.out | apply KeepBut.set_ | apply keep_drewN | apply keep_drew | apply keep_alloc) | exact HK.out)) hk (.inl rfl)) hb hi ?_; clear HK; clear HB; clear HI0; intro HK HB HI0; (try clear hb)))
 go_ret
 exact ⟨er, by repeat (first | (with_reducible first | exact HI0.out | apply IsS27.alloc | apply IsS27.drewN | apply IsS27.drew | apply IsS27.set_0) | exact HI0.out), by repeat (first | (with_reducible first | exact HB.out | apply below_alloc | apply pw_below_drewN | apply below_drew1 | refine below_set ?_ (IsS27.ge HI0.out)) | exact HB.out), by repeat (first | (with_reducible first | exact HK.out | apply KeepBut.set_ | apply keep_drewN | apply keep_drew | apply keep_alloc) | exact HK.out)⟩

/-! ### bits_Mul64: function 51 -/
def bits_Mul64.f (a0 : Int) (a1 : Int) : Option (Int × Int) := some (IntKind.u64.wrap ((IntKind.u64.wrap ((IntKind.u64.wrap ((a0 / 4294967296) * (a1 / 4294967296))) + ((IntKind.u64.wrap ((IntKind.u64.wrap ((a0 / 4294967296) * (Go.bits .and .u64 a1 4294967295))) + ((IntKind.u64.wrap ((Go.bits .and .u64 a0 4294967295) * (Go.bits .and .u64 a1 4294967295))) / 4294967296))) / 4294967296))) + ((IntKind.u64.wrap ((Go.bits .and .u64 (IntKind.u64.wrap ((IntKind.u64.wrap ((a0 / 4294967296) * (Go.bits .and .u64 a1 4294967295))) + ((IntKind.u64.wrap ((Go.bits .and .u64 a0 4294967295) * (Go.bits .and .u64 a1 4294967295))) / 4294967296))) 4294967295) + (IntKind.u64.wrap ((Go.bits .and .u64 a0 4294967295) * (a1 / 4294967296))))) / 4294967296)), IntKind.u64.wrap (a0 * a1))
set_option maxHeartbeats 8000000 in
set_option maxRecDepth 100000 in
theorem bits_Mul64.calls (a0 : Int) (a1 : Int) (r1 : Int) (r2 : Int) (w : World) (h : bits_Mul64.f a0 a1 = some (r1, r2)) :
  Calls Try.prog 51 #[.int .u64 a0, .int .u64 a1] w fun e w' => e = .returned (.tuple #[.int .u64 r1, .int .u64 r2]) ∧ Drawn0 w w' := by
 have H : (some (IntKind.u64.wrap ((IntKind.u64.wrap ((IntKind.u64.wrap ((a0 / 4294967296) * (a1 / 4294967296))) + ((IntKind.u64.wrap ((IntKind.u64.wrap ((a0 / 4294967296) * (Go.bits .and .u64 a1 4294967295))) + ((IntKind.u64.wrap ((Go.bits .and .u64 a0 4294967295) * (Go.bits .and .u64 a1 4294967295))) / 4294967296))) / 4294967296))) + ((IntKind.u64.wrap ((Go.bits .and .u64 (IntKind.u64.wrap ((IntKind.u64.wrap ((a0 / 4294967296) * (Go.bits .and .u64 a1 4294967295))) + ((IntKind.u64.wrap ((Go.bits .and .u64 a0 4294967295) * (Go.bits .and .u64 a1 4294967295))) / 4294967296))) 4294967295) + (IntKind.u64.wrap ((Go.bits .and .u64 a0 4294967295) * (a1 / 4294967296))))) / 4294967296)), IntKind.u64.wrap (a0 * a1))) = some (r1, r2) := h
 clear h
 simp only [Option.some.injEq, Prod.mk.injEq] at H
 obtain ⟨rfl, rfl⟩ := H
 go_enter Try.func51, Try.ntmps51
 go_wp2
 go_ret2
 exact ⟨by first | rfl | (simp; done) | (simp [*]; done), by repeat (first | exact Drawn0.refl _ | apply Drawn0.step)⟩

/-! ### wide_Mul: function 46 -/
def wide_Mul.f (a0 : Int) (a1 : Int) : Option (Int × Int) := (bits_Mul64.f a0 a1).bind fun bt231 => (some (bt231.1, bt231.2))
set_option maxHeartbeats 8000000 in
set_option maxRecDepth 100000 in
theorem wide_Mul.calls (a0 : Int) (a1 : Int) (r1 : Int) (r2 : Int) (w : World) (h : wide_Mul.f a0 a1 = some (r1, r2)) :
  Calls Try.prog 46 #[.int .u64 a0, .int .u64 a1] w fun e w' => e = .returned (.agg #[.int .u64 r1, .int .u64 r2]) ∧ Below w.heap.size w w' := by
 have hu58 := Try.underlying58
 have HB := Aside0.mk (Below.refl w.heap.size w)
 have H : ((bits_Mul64.f a0 a1).bind fun bt231 => (some (bt231.1, bt231.2))) = some (r1, r2) := h
 clear h
 obtain ⟨⟨t231, t232⟩, A30, H⟩ := Option.bind_eq_some_iff.mp H
 (try dsimp -simprocs only at H)
 have A3 := Aside0.mk A30
 clear A30
 simp only [Option.some.injEq, Prod.mk.injEq] at H
 obtain ⟨rfl, rfl⟩ := H
 go_enter Try.func46, Try.ntmps46
 go_wp2_with (first | ((with_reducible refine gate_dst (N := 4) rfl ?_); refine gbox (N := 4) (cs := #[.int .u64 0, .int .u64 0]) (t := 58) ?_; intro gb230 hg w4 hbox hb; refine ax4 (below_step bel hb) hbox ((ge hg : w.heap.size ≤ gb230)) ((ge hg : w.heap.size ≤ gb230)) ?_; clear HB; intro HB BK230 GW230 GE230; clear hb hbox hg) | ((with_reducible refine gate_callee (f := 51) rfl ?_); refine goesL_ (some 10) rfl rfl Try.func51 (by kernel_rfl) rfl #[.int .u64 a0, .int .u64 a1] rfl ga ?_; (with_reducible refine (bits_Mul64.calls a0 a1 t231 t232 _ A3.out).mono ?_); rintro e w' ⟨rfl, ⟨nd, rfl⟩⟩; refine ⟨_, rfl, ?_⟩; (try (rw [drewN_self w4]; generalize hq_ : World.drewN w4 _ = w4; have n0_ : Aside0 (w4.heap[gb230]? = some (.cells #[.int .u64 0, .int .u64 0] 58 (0, 0))) := ⟨by rw [← hq_]; exact (kb BK230)⟩; have n1_ : Aside0 (Below w.heap.size w w4) := ⟨by rw [← hq_]; exact bes⟩; clear BK230 HB hq_; have BK230 := n0_; have HB := n1_; clear n0_ n1_)); have hcz5_0 := bc BK230 0 rfl; have hcz5_1 := bc BK230 1 rfl; have hfz5_0 := blk_frozen BK230.out 0; have hfz5_1 := blk_frozen BK230.out 1))
 refine bodyPost_ret (results_cell_row rfl _ _ gb230 58 #[.int .u64 t231, .int .u64 t232] (0, 0) _ rfl (by (with_reducible repeat (first | refine blk_drewN ?_ _ | refine blk_drew ?_ | refine blk_alloc ?_ _)); refine blk_put (cs := #[.int .u64 t231, .int .u64 0]) ?_ 1 _ rfl; (with_reducible repeat (first | refine blk_drewN ?_ _ | refine blk_drew ?_ | refine blk_alloc ?_ _)); refine blk_put (cs := #[.int .u64 0, .int .u64 0]) ?_ 0 _ rfl; (with_reducible repeat (first | refine blk_drewN ?_ _ | refine blk_drew ?_ | refine blk_alloc ?_ _)); exact BK230.out) Try.underlying58 rfl (by kernel_rfl)) rfl ?_
 exact ⟨er, bes⟩

end Go.Proofs.Ytkkfghecmhmdpaa.F
