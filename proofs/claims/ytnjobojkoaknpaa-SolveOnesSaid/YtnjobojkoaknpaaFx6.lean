-- Written by a program of this seat's session (mkprint), out of the translation.
import Derived.Test.YtnjobojkoaknpaaShort
import Derived.Test.YtnjobojkoaknpaaFx0
import Derived.Test.YtnjobojkoaknpaaFx2
import Derived.Test.YtnjobojkoaknpaaFx3
import Derived.Test.YtnjobojkoaknpaaFx4
import Derived.Test.YtnjobojkoaknpaaFx5
namespace Go.Proofs.Ytnjobojkoaknpaa.F
open Go.RowKit Go.Proofs.YtnjobojkoaknpaaW.PrintWords Go.Proofs.YtnjobojkoaknpaaW.PrintLast Go.Proofs.YtnjobojkoaknpaaW.PrintMore
attribute [local go_sem] max2_int min2_int max_two min_two max_three min_three max_four min_four   -- for this text's walks alone
set_option linter.unusedVariables false
set_option linter.unusedSimpArgs false

/-! ### soft_Add: function 37 -/
mutual
def soft_Add.j0 : Nat → Int → Int → Int → Int → Bool → Option (Int × Int)
 | 0, _, _, _, _, _ => none
 | k + 1, x0, x1, x9, x10, x37 => if x37 = true then (some (9221120237041090560, 16)) else (if x9 = 4 then (some (x0, 0)) else (if x10 = 4 then (some (x1, 0)) else (if x9 = 1 then (soft_Add.j1 k x0 x1 x9 x10 (x10 == 1)) else (soft_Add.j1 k x0 x1 x9 x10 false))))
def soft_Add.j1 : Nat → Int → Int → Int → Int → Bool → Option (Int × Int)
 | 0, _, _, _, _, _ => none
 | k + 1, x0, x1, x9, x10, x57 => if x57 = true then (some (Go.bits .and .u64 x0 x1, 0)) else (if x9 = 1 then (some (x1, 0)) else (if x10 = 1 then (some (x0, 0)) else ((word_Abs.f x0).bind fun t176 => ((word_Abs.f x1).bind fun t177 => (if t176 < t177 then (soft_Add.j2 k x1 x0) else (soft_Add.j2 k x0 x1))))))
def soft_Add.j2 : Nat → Int → Int → Option (Int × Int)
 | 0, _, _ => none
 | k + 1, x0, x1 => (word_Parts.f k x0).bind fun bt178 => ((word_Parts.f k x1).bind fun bt180 => ((wide_Wide_Left.f 0 bt178.1 64).bind fun bt182 => ((wide_Wide_Left.f 0 bt180.1 64).bind fun bt185 => ((wide_Wide_Right.f k bt185.1 bt185.2 (wrap64 (bt178.2 - bt180.2))).bind fun bt187 => ((word_Neg.f x0).bind fun t191 => ((word_Neg.f x1).bind fun t192 => (if (t191 == t192) = true then ((wide_Wide_Add.f bt182.1 bt182.2 bt187.1 bt187.2.1).bind fun bt193 => ((word_Neg.f x0).bind fun t197 => ((round_Round.f k t197 bt193.1 bt193.2.1 (wrap64 (bt178.2 - 64)) bt187.2.2).bind fun bt198 => (some (bt198.1, bt198.2))))) else (if bt187.2.2 = true then ((wide_Wide_Add.f bt187.1 bt187.2.1 0 1).bind fun bt200 => (soft_Add.j3 k x0 bt178.2 bt187.2.2 bt182.1 bt182.2 bt200.1 bt200.2.1)) else (soft_Add.j3 k x0 bt178.2 bt187.2.2 bt182.1 bt182.2 bt187.1 bt187.2.1)))))))))
def soft_Add.j3 : Nat → Int → Int → Bool → Int → Int → Int → Int → Option (Int × Int)
 | 0, _, _, _, _, _, _, _ => none
 | k + 1, x0, x12, x17, x185000, x185001, x191000, x191001 => (wide_Wide_Sub.f x185000 x185001 x191000 x191001).bind fun bt203 => ((wide_Wide_Zero.f bt203.1 bt203.2.1).bind fun t207 => (if t207 = true then (soft_Add.j4 k x0 x12 x17 (!x17) bt203.1 bt203.2.1) else (soft_Add.j4 k x0 x12 x17 false bt203.1 bt203.2.1)))
def soft_Add.j4 : Nat → Int → Int → Bool → Bool → Int → Int → Option (Int × Int)
 | 0, _, _, _, _, _, _ => none
 | k + 1, x0, x12, x17, x143, x207000, x207001 => if x143 = true then (some (0, 0)) else ((word_Neg.f x0).bind fun t208 => ((round_Round.f k t208 x207000 x207001 (wrap64 (x12 - 64)) x17).bind fun bt209 => (some (bt209.1, bt209.2))))
end
def soft_Add.f (k : Nat) (a0 : Int) (a1 : Int) : Option (Int × Int) := (soft_nan.f k (([a0, a1] : List Int))).bind fun bt171 => (if bt171.2.2 = true then (some (bt171.1, bt171.2.1)) else ((word_Kind.f k a0).bind fun t174 => ((word_Kind.f k a1).bind fun t175 => (if t174 = 4 then (if t175 = 4 then (soft_Add.j0 k a0 a1 t174 t175 (a0 != a1)) else (soft_Add.j0 k a0 a1 t174 t175 false)) else (soft_Add.j0 k a0 a1 t174 t175 false)))))
theorem soft_Add.mono_l : ∀ k, (∀ y0 y1 y2 y3 y4, LeO (soft_Add.j0 k y0 y1 y2 y3 y4) (soft_Add.j0 (k + 1) y0 y1 y2 y3 y4)) ∧ (∀ y0 y1 y2 y3 y4, LeO (soft_Add.j1 k y0 y1 y2 y3 y4) (soft_Add.j1 (k + 1) y0 y1 y2 y3 y4)) ∧ (∀ y0 y1, LeO (soft_Add.j2 k y0 y1) (soft_Add.j2 (k + 1) y0 y1)) ∧ (∀ y0 y1 y2 y3 y4 y5 y6, LeO (soft_Add.j3 k y0 y1 y2 y3 y4 y5 y6) (soft_Add.j3 (k + 1) y0 y1 y2 y3 y4 y5 y6)) ∧ (∀ y0 y1 y2 y3 y4 y5, LeO (soft_Add.j4 k y0 y1 y2 y3 y4 y5) (soft_Add.j4 (k + 1) y0 y1 y2 y3 y4 y5))
 | 0 => ⟨fun _ _ _ _ _ r h => by simp [soft_Add.j0] at h, fun _ _ _ _ _ r h => by simp [soft_Add.j1] at h, fun _ _ r h => by simp [soft_Add.j2] at h, fun _ _ _ _ _ _ _ r h => by simp [soft_Add.j3] at h, fun _ _ _ _ _ _ r h => by simp [soft_Add.j4] at h⟩
 | k + 1 => by
  obtain ⟨ih0, ih1, ih2, ih3, ih4⟩ := soft_Add.mono_l k
  refine ⟨?_, ?_, ?_, ?_, ?_⟩ <;> intros <;> (first | unfold soft_Add.j0 | unfold soft_Add.j1 | unfold soft_Add.j2 | unfold soft_Add.j3 | unfold soft_Add.j4) <;>
   repeat' with_reducible first | apply ih0 | apply ih1 | apply ih2 | apply ih3 | apply ih4 | apply round_Round.mono | apply soft_nan.mono | apply wide_Wide_Right.mono | apply word_Kind.mono | apply word_Parts.mono | exact LeO.refl _ | exact LeO.none _ | refine LeO.ite ?_ ?_ | refine LeO.bind ?_ (fun _ => ?_)
theorem soft_Add.mono : ∀ a0 a1 k, LeO (soft_Add.f k a0 a1) (soft_Add.f (k + 1) a0 a1) := by
 intro a0 a1 k
 obtain ⟨ih0, ih1, ih2, ih3, ih4⟩ := soft_Add.mono_l k
 unfold soft_Add.f
 repeat' with_reducible first | apply ih0 | apply ih1 | apply ih2 | apply ih3 | apply ih4 | apply round_Round.mono | apply soft_nan.mono | apply wide_Wide_Right.mono | apply word_Kind.mono | apply word_Parts.mono | exact LeO.refl _ | exact LeO.none _ | refine LeO.ite ?_ ?_ | refine LeO.bind ?_ (fun _ => ?_)
def soft_Add.T25 : Bool × List (List Nat × List Nat) := (true, [([], []), ([0], [0]), ([], []), ([], []), ([3], [3]), ([], []), ([1, 2, 4, 5, 1], [1, 2, 4, 5]), ([6], [6]), ([6], [6]), ([7, 6, 0, 1, 2, 3, 4, 5, 6, 7, 8], [7]), ([8, 9, 0, 1, 2, 3, 4, 5, 6, 7, 8, 9], [8])])
def soft_Add.B25 : List Nat := [0, 1, 0, 0, 8, 0, 63, 127, 127, 511, 1023]
theorem soft_Add.tab25 : rtab .any (opsOf Try.f37 25) = soft_Add.T25 := by kernel_rfl
theorem soft_Add.bits25 : waitsOk soft_Add.T25.2 soft_Add.B25 = true := by kernel_rfl
def soft_Add.T31 : Bool × List (List Nat × List Nat) := (true, [([], []), ([0], [0]), ([], []), ([], []), ([3], [3]), ([], []), ([1, 2, 4, 5, 1], [1, 2, 4, 5]), ([6], [6]), ([6], [6]), ([7, 6, 0, 1, 2, 3, 4, 5, 6, 7, 8], [7]), ([8, 9, 0, 1, 2, 3, 4, 5, 6, 7, 8, 9], [8])])
def soft_Add.B31 : List Nat := [0, 1, 0, 0, 8, 0, 63, 127, 127, 511, 1023]
theorem soft_Add.tab31 : rtab .any (opsOf Try.f37 31) = soft_Add.T31 := by kernel_rfl
theorem soft_Add.bits31 : waitsOk soft_Add.T31.2 soft_Add.B31 = true := by kernel_rfl
set_option maxHeartbeats 8000000 in
set_option maxRecDepth 100000 in
theorem soft_Add.calls (k : Nat) (a0 : Int) (a1 : Int) (r1 : Int) (r2 : Int) (w : World) (h : soft_Add.f k a0 a1 = some (r1, r2)) :
  Calls Try.prog 37 #[.int .u64 a0, .int .u64 a1] w fun e w' => e = .returned (.tuple #[.int .u64 r1, .int .u8 r2]) ∧ Below w.heap.size w w' := by
 have hu67 := Try.underlying67
 have HB := Aside0.mk (Below.refl w.heap.size w)
 have H : ((soft_nan.f k (([a0, a1] : List Int))).bind fun bt171 => (if bt171.2.2 = true then (some (bt171.1, bt171.2.1)) else ((word_Kind.f k a0).bind fun t174 => ((word_Kind.f k a1).bind fun t175 => (if t174 = 4 then (if t175 = 4 then (soft_Add.j0 k a0 a1 t174 t175 (a0 != a1)) else (soft_Add.j0 k a0 a1 t174 t175 false)) else (soft_Add.j0 k a0 a1 t174 t175 false)))))) = some (r1, r2) := h
 clear h
 obtain ⟨y168, hy168⟩ : ∃ y_ : List Int, y_ = (([a0, a1] : List Int)) := ⟨_, rfl⟩
 replace H : ((soft_nan.f k y168).bind fun bt171 => (if bt171.2.2 = true then (some (bt171.1, bt171.2.1)) else ((word_Kind.f k a0).bind fun t174 => ((word_Kind.f k a1).bind fun t175 => (if t174 = 4 then (if t175 = 4 then (soft_Add.j0 k a0 a1 t174 t175 (a0 != a1)) else (soft_Add.j0 k a0 a1 t174 t175 false)) else (soft_Add.j0 k a0 a1 t174 t175 false)))))) = some (r1, r2) := by first | (rw [hy168]; with_reducible exact H) | (have H2_ := (Option.bind_some _ _).symm.trans H; rw [hy168]; with_reducible exact H2_) | (have H2_ := (Option.bind_some _ _).symm.trans H; with_reducible exact H2_) | with_reducible exact H | (rw [hy168]; exact H) | exact H
 have Ny168 := Aside0.mk hy168
 clear hy168
 obtain ⟨⟨t171, t172, t173⟩, A30, H⟩ := Option.bind_eq_some_iff.mp H
 (try dsimp -simprocs only at H)
 have A3 := Aside0.mk A30
 clear A30
 by_cases c4 : t173 = true
 ·
  subst c4
  rw [if_pos rfl] at H
  simp only [Option.some.injEq, Prod.mk.injEq] at H
  obtain ⟨rfl, rfl⟩ := H
  go_enter Try.func37, Try.ntmps37
  go_wp2_with (first | ((with_reducible refine gate_dst (N := 25) rfl ?_); refine Kd.R_lit (Kd.int .u64) _ 35 ?hg (N := 25) ?hd (xs := ([a0, a1] : List Int)) (inner := [.int .u64 a0, .int .u64 a1]) (ok := fun _ => True) (okp := fun _ => True) ?hr ?hp (fun _ hk => hk) trivial (Below.refl _ _) (Nat.le_refl _) (by simp) ?_; (case hd => rfl); (case hg => rfl); (case hr => first | (go_simp; done) | (go_simp; rfl)); (case hp => exact (Reps.one (show Kd.M (Kd.int .u64) _ _ _ a0 [.int .u64 a0] from rfl) (Reps.one (show Kd.M (Kd.int .u64) _ _ _ a1 [.int .u64 a1] from rfl) (Reps.none _ _)))); intro v169 w5 ho6 hb hg_ hnew_; clear hg_ hnew_; (first | rw [← Ny168.out] at ho6 | (simp only [Int.reduceToNat] at ho6; rw [← Ny168.out] at ho6)); refine ax2 (Kd.R_lower ho6 (below_size bel)) (below_step bel hb) ?_; clear HB; intro HO170 HB; clear hb ho6; obtain ⟨Ao7, co7, eo7⟩ := Kd.R_slice HO170.out; subst eo7) | ((with_reducible refine gate_callee (f := 45) rfl ?_); refine goesL_ (some 26) rfl rfl Try.func45 (by kernel_rfl) rfl #[.slice Ao7 y168.length co7] rfl ga ?_; (with_reducible refine (soft_nan.calls k _ _ y168 t171 t172 true _ ?side1 ?side2 A3.out).mono ?_); (case side1 => exact ks HO170); (case side2 => exact (Kd.R_reads' HO170.out).2.1); rintro e w' ⟨rfl, ⟨nd, rfl⟩⟩; refine ⟨_, rfl, ?_⟩))
  go_ret2
  exact ⟨er, bel⟩
 ·
  replace c4 := Bool.eq_false_iff.mpr c4
  subst c4
  rw [if_neg (show ¬ (false = true) by decide)] at H
  obtain ⟨t174, A80, H⟩ := Option.bind_eq_some_iff.mp H
  (try dsimp -simprocs only at H)
  have A8 := Aside0.mk A80
  clear A80
  obtain ⟨t175, A90, H⟩ := Option.bind_eq_some_iff.mp H
  (try dsimp -simprocs only at H)
  have A9 := Aside0.mk A90
  clear A90
  have HC10 := Aside0.mk H
  clear H
  go_enter Try.func37, Try.ntmps37
  go_upto_region 5 with (first | ((with_reducible refine gate_dst (N := 25) rfl ?_); refine Kd.R_lit (Kd.int .u64) _ 35 ?hg (N := 25) ?hd (xs := ([a0, a1] : List Int)) (inner := [.int .u64 a0, .int .u64 a1]) (ok := fun _ => True) (okp := fun _ => True) ?hr ?hp (fun _ hk => hk) trivial (Below.refl _ _) (Nat.le_refl _) (by simp) ?_; (case hd => rfl); (case hg => rfl); (case hr => first | (go_simp; done) | (go_simp; rfl)); (case hp => exact (Reps.one (show Kd.M (Kd.int .u64) _ _ _ a0 [.int .u64 a0] from rfl) (Reps.one (show Kd.M (Kd.int .u64) _ _ _ a1 [.int .u64 a1] from rfl) (Reps.none _ _)))); intro v169 w11 ho12 hb hg_ hnew_; clear hg_ hnew_; (first | rw [← Ny168.out] at ho12 | (simp only [Int.reduceToNat] at ho12; rw [← Ny168.out] at ho12)); refine ax2 (Kd.R_lower ho12 (below_size bel)) (below_step bel hb) ?_; clear HB; intro HO170 HB; clear hb ho12; obtain ⟨Ao13, co13, eo13⟩ := Kd.R_slice HO170.out; subst eo13) | ((with_reducible refine gate_callee (f := 45) rfl ?_); refine goesL_ (some 26) rfl rfl Try.func45 (by kernel_rfl) rfl #[.slice Ao13 y168.length co13] rfl ga ?_; (with_reducible refine (soft_nan.calls k _ _ y168 t171 t172 false _ ?side1 ?side2 A3.out).mono ?_); (case side1 => exact ks HO170); (case side2 => exact (Kd.R_reads' HO170.out).2.1); rintro e w' ⟨rfl, ⟨nd, rfl⟩⟩; refine ⟨_, rfl, ?_⟩) | ((with_reducible refine gate_callee (f := 27) rfl ?_); refine goesL_ (some 34) rfl rfl Try.func27 (by kernel_rfl) rfl #[.int .u64 a0] rfl ga ?_; (with_reducible refine (word_Kind.calls k a0 t174 _ A8.out).mono ?_); rintro e w' ⟨rfl, ⟨nd, rfl⟩⟩; refine ⟨_, rfl, ?_⟩) | ((with_reducible refine gate_callee (f := 27) rfl ?_); refine goesL_ (some 36) rfl rfl Try.func27 (by kernel_rfl) rfl #[.int .u64 a1] rfl ga ?_; (with_reducible refine (word_Kind.calls k a1 t175 _ A9.out).mono ?_); rintro e w' ⟨rfl, ⟨nd, rfl⟩⟩; refine ⟨_, rfl, ?_⟩))
  (try simp only [Act.put, sa0, sa1, sa2])
  go_cut [37] (fun v37 wc => ∃ (kq : Nat) (x37_9 : Bool), v37 = .bool x37_9 ∧ Aside0 (soft_Add.j0 kq a0 a1 t174 t175 x37_9 = some (r1, r2)) ∧ Aside0 (kq ≤ k) ∧ Aside0 (Below w.heap.size w wc))
  case first =>
   have H := HC10.out
   clear HC10
   by_cases c14 : t174 = 4
   rotate_left
   ·
    rw [if_neg c14] at H
    have c14b0 : (t174 == 4) = false := beq_eq_false_iff_ne.mpr c14
    have c14b1 : (t174 != 4) = true := bne_iff_ne.mpr c14
    (first | rw [c14b0] | (simp only [i64_w, i32_w]; rw [c14b0]) | skip)
    have H' := Aside0.mk H
    clear H
    go_wp2
    go_meet
    case rel => exact ⟨_, (false), (by first | rfl | (simp; done) | (simp [*]; done)), H', ⟨by first | omega | exact Nat.le_refl _⟩, ⟨bel⟩⟩
   rw [if_pos c14] at H
   have c14b0 : (t174 == 4) = true := beq_iff_eq.mpr c14
   have c14b1 : (t174 != 4) = false := bne_eq_false_iff_eq.mpr c14
   clear c14
   (first | rw [c14b0] | (simp only [i64_w, i32_w]; rw [c14b0]) | skip)
   by_cases c15 : t175 = 4
   rotate_left
   ·
    rw [if_neg c15] at H
    have c15b0 : (t175 == 4) = false := beq_eq_false_iff_ne.mpr c15
    have c15b1 : (t175 != 4) = true := bne_iff_ne.mpr c15
    have H' := Aside0.mk H
    clear H
    go_wp2
    go_meet
    case rel => exact ⟨_, (false), (by first | rfl | (simp; done) | (simp [*]; done)), H', ⟨by first | omega | exact Nat.le_refl _⟩, ⟨bel⟩⟩
   rw [if_pos c15] at H
   have c15b0 : (t175 == 4) = true := beq_iff_eq.mpr c15
   have c15b1 : (t175 != 4) = false := bne_eq_false_iff_eq.mpr c15
   clear c15
   have H' := Aside0.mk H
   clear H
   go_wp2
   go_meet
   case rel => exact ⟨_, ((a0 != a1)), (by first | rfl | (simp; done) | (simp [*]; done)), H', ⟨by first | omega | exact Nat.le_refl _⟩, ⟨bel⟩⟩
  case rest =>
   clear HC10
   try clear c1
   try clear c2
   try clear p2
   try clear c3
   try clear c4
   try clear c14
   try clear c14b0
   try clear c14b1
   try clear c15
   try clear c15b0
   try clear c15b1
   obtain ⟨kq, x37_9, rfl, HA, HJ9, HB⟩ := hcut
   cases kq with
   | zero => exact absurd HA.out (by simp [soft_Add.j0])
   | succ kj9 =>
    have H := HA.out
    clear HA
    simp only [soft_Add.j0] at H
    by_cases c16 : x37_9 = true
    ·
     subst c16
     rw [if_pos rfl] at H
     simp only [Option.some.injEq, Prod.mk.injEq] at H
     obtain ⟨rfl, rfl⟩ := H
     go_wp2
     go_ret2
     exact ⟨er, bel⟩
    ·
     replace c16 := Bool.eq_false_iff.mpr c16
     subst c16
     rw [if_neg (show ¬ (false = true) by decide)] at H
     by_cases c17 : t174 = 4
     ·
      rw [if_pos c17] at H
      have c17b0 : (t174 == 4) = true := beq_iff_eq.mpr c17
      have c17b1 : (t174 != 4) = false := bne_eq_false_iff_eq.mpr c17
      clear c17
      simp only [Option.some.injEq, Prod.mk.injEq] at H
      obtain ⟨rfl, rfl⟩ := H
      go_wp2
      go_ret2
      exact ⟨er, bel⟩
     ·
      rw [if_neg c17] at H
      have c17b0 : (t174 == 4) = false := beq_eq_false_iff_ne.mpr c17
      have c17b1 : (t174 != 4) = true := bne_iff_ne.mpr c17
      by_cases c18 : t175 = 4
      ·
       rw [if_pos c18] at H
       have c18b0 : (t175 == 4) = true := beq_iff_eq.mpr c18
       have c18b1 : (t175 != 4) = false := bne_eq_false_iff_eq.mpr c18
       clear c18
       simp only [Option.some.injEq, Prod.mk.injEq] at H
       obtain ⟨rfl, rfl⟩ := H
       go_wp2
       go_ret2
       exact ⟨er, bel⟩
      ·
       rw [if_neg c18] at H
       have c18b0 : (t175 == 4) = false := beq_eq_false_iff_ne.mpr c18
       have c18b1 : (t175 != 4) = true := bne_iff_ne.mpr c18
       have HC19 := Aside0.mk H
       clear H
       go_upto_region 11 with (fail)
       go_cut [57] (fun v57 wc => ∃ (kq : Nat) (x57_18 : Bool), v57 = .bool x57_18 ∧ Aside0 (soft_Add.j1 kq a0 a1 t174 t175 x57_18 = some (r1, r2)) ∧ Aside0 (kq ≤ kj9) ∧ Aside0 (Below w.heap.size w wc))
       case first =>
        have H := HC19.out
        clear HC19
        by_cases c20 : t174 = 1
        rotate_left
        ·
         rw [if_neg c20] at H
         have c20b0 : (t174 == 1) = false := beq_eq_false_iff_ne.mpr c20
         have c20b1 : (t174 != 1) = true := bne_iff_ne.mpr c20
         (first | rw [c20b0] | (simp only [i64_w, i32_w]; rw [c20b0]) | skip)
         have H' := Aside0.mk H
         clear H
         go_wp2
         go_meet
         case rel => exact ⟨_, (false), (by first | rfl | (simp; done) | (simp [*]; done)), H', ⟨by have := HJ9.out; first | omega | exact Nat.le_refl _⟩, ⟨bel⟩⟩
        rw [if_pos c20] at H
        have c20b0 : (t174 == 1) = true := beq_iff_eq.mpr c20
        have c20b1 : (t174 != 1) = false := bne_eq_false_iff_eq.mpr c20
        clear c20
        (first | rw [c20b0] | (simp only [i64_w, i32_w]; rw [c20b0]) | skip)
        have H' := Aside0.mk H
        clear H
        go_wp2
        go_meet
        case rel => exact ⟨_, ((t175 == 1)), (by first | rfl | (simp; done) | (simp [*]; done)), H', ⟨by have := HJ9.out; first | omega | exact Nat.le_refl _⟩, ⟨bel⟩⟩
       case rest =>
        clear HC19
        try clear c1
        try clear c2
        try clear p2
        try clear c3
        try clear c4
        try clear c14
        try clear c14b0
        try clear c14b1
        try clear c15
        try clear c15b0
        try clear c15b1
        try clear c16
        try clear c17
        try clear c17b0
        try clear c17b1
        try clear c18
        try clear c18b0
        try clear c18b1
        try clear c20
        try clear c20b0
        try clear c20b1
        try clear p2
        obtain ⟨kq, x57_18, rfl, HA, HJ18, HB⟩ := hcut
        cases kq with
        | zero => exact absurd HA.out (by simp [soft_Add.j1])
        | succ kj18 =>
         have H := HA.out
         clear HA
         simp only [soft_Add.j1] at H
         by_cases c21 : x57_18 = true
         ·
          subst c21
          rw [if_pos rfl] at H
          simp only [Option.some.injEq, Prod.mk.injEq] at H
          obtain ⟨rfl, rfl⟩ := H
          go_wp2
          go_ret2
          exact ⟨er, bel⟩
         ·
          replace c21 := Bool.eq_false_iff.mpr c21
          subst c21
          rw [if_neg (show ¬ (false = true) by decide)] at H
          by_cases c22 : t174 = 1
          ·
           rw [if_pos c22] at H
           have c22b0 : (t174 == 1) = true := beq_iff_eq.mpr c22
           have c22b1 : (t174 != 1) = false := bne_eq_false_iff_eq.mpr c22
           clear c22
           simp only [Option.some.injEq, Prod.mk.injEq] at H
           obtain ⟨rfl, rfl⟩ := H
           go_wp2
           go_ret2
           exact ⟨er, bel⟩
          ·
           rw [if_neg c22] at H
           have c22b0 : (t174 == 1) = false := beq_eq_false_iff_ne.mpr c22
           have c22b1 : (t174 != 1) = true := bne_iff_ne.mpr c22
           by_cases c23 : t175 = 1
           ·
            rw [if_pos c23] at H
            have c23b0 : (t175 == 1) = true := beq_iff_eq.mpr c23
            have c23b1 : (t175 != 1) = false := bne_eq_false_iff_eq.mpr c23
            clear c23
            simp only [Option.some.injEq, Prod.mk.injEq] at H
            obtain ⟨rfl, rfl⟩ := H
            go_wp2
            go_ret2
            exact ⟨er, bel⟩
           ·
            rw [if_neg c23] at H
            have c23b0 : (t175 == 1) = false := beq_eq_false_iff_ne.mpr c23
            have c23b1 : (t175 != 1) = true := bne_iff_ne.mpr c23
            obtain ⟨t176, A240, H⟩ := Option.bind_eq_some_iff.mp H
            (try dsimp -simprocs only at H)
            have A24 := Aside0.mk A240
            clear A240
            obtain ⟨t177, A250, H⟩ := Option.bind_eq_some_iff.mp H
            (try dsimp -simprocs only at H)
            have A25 := Aside0.mk A250
            clear A250
            have HC26 := Aside0.mk H
            clear H
            go_upto_if 79 with (first | ((with_reducible refine gate_callee (f := 10) rfl ?_); refine goesL_ (some 76) rfl rfl Try.func10 (by kernel_rfl) rfl #[.int .u64 a0] rfl ga ?_; (with_reducible refine (word_Abs.calls a0 t176 _ A24.out).mono ?_); rintro e w' ⟨rfl, ⟨nd, rfl⟩⟩; refine ⟨_, rfl, ?_⟩) | ((with_reducible refine gate_callee (f := 10) rfl ?_); refine goesL_ (some 78) rfl rfl Try.func10 (by kernel_rfl) rfl #[.int .u64 a1] rfl ga ?_; (with_reducible refine (word_Abs.calls a1 t177 _ A25.out).mono ?_); rintro e w' ⟨rfl, ⟨nd, rfl⟩⟩; refine ⟨_, rfl, ?_⟩))
            (try simp only [Act.put, sa0, sa1, sa2])
            go_cut [0, 1] (fun v0 v1 wc => ∃ (kq : Nat) (x0_25 : Int) (x1_25 : Int), v0 = .int .u64 x0_25 ∧ v1 = .int .u64 x1_25 ∧ Aside0 (soft_Add.j2 kq x0_25 x1_25 = some (r1, r2)) ∧ Aside0 (kq ≤ kj18) ∧ Aside0 (Below w.heap.size w wc))
            case first =>
             have H := HC26.out
             clear HC26
             by_cases c27 : t176 < t177
             rotate_left
             ·
              rw [if_neg c27] at H
              have c27b0 : decide (t176 < t177) = false := decide_eq_false c27
              clear c27
              (first | rw [c27b0] | (simp only [i64_w, i32_w]; rw [c27b0]) | skip)
              have H' := Aside0.mk H
              clear H
              go_wp2
              go_meet
              case rel => exact ⟨_, (a0), (a1), (by first | rfl | (simp; done) | (simp [*]; done)), (by first | rfl | (simp; done) | (simp [*]; done)), H', ⟨by have := HJ9.out; have := HJ18.out; first | omega | exact Nat.le_refl _⟩, ⟨bel⟩⟩
             rw [if_pos c27] at H
             have c27b0 : decide (t176 < t177) = true := decide_eq_true c27
             clear c27
             (first | rw [c27b0] | (simp only [i64_w, i32_w]; rw [c27b0]) | skip)
             have H' := Aside0.mk H
             clear H
             go_wp2
             go_meet
             case rel => exact ⟨_, (a1), (a0), (by first | rfl | (simp; done) | (simp [*]; done)), (by first | rfl | (simp; done) | (simp [*]; done)), H', ⟨by have := HJ9.out; have := HJ18.out; first | omega | exact Nat.le_refl _⟩, ⟨bel⟩⟩
            case rest =>
             clear HC26
             try clear c1
             try clear c2
             try clear p2
             try clear c3
             try clear c4
             try clear c10
             try clear c14
             try clear c14b0
             try clear c14b1
             try clear c15
             try clear c15b0
             try clear c15b1
             try clear c16
             try clear c17
             try clear c17b0
             try clear c17b1
             try clear c18
             try clear c18b0
             try clear c18b1
             try clear c20
             try clear c20b0
             try clear c20b1
             try clear c21
             try clear c22
             try clear c22b0
             try clear c22b1
             try clear c23
             try clear c23b0
             try clear c23b1
             try clear c27
             try clear c27b0
             try clear p2
             obtain ⟨kq, x0_25, x1_25, rfl, rfl, HA, HJ25, HB⟩ := hcut
             cases kq with
             | zero => exact absurd HA.out (by simp [soft_Add.j2])
             | succ kj25 =>
              have H := HA.out
              clear HA
              simp only [soft_Add.j2] at H
              obtain ⟨⟨t178, t179⟩, A280, H⟩ := Option.bind_eq_some_iff.mp H
              (try dsimp -simprocs only at H)
              have A28 := Aside0.mk A280
              clear A280
              obtain ⟨⟨t180, t181⟩, A290, H⟩ := Option.bind_eq_some_iff.mp H
              (try dsimp -simprocs only at H)
              have A29 := Aside0.mk A290
              clear A290
              obtain ⟨⟨t182, t183⟩, A300, H⟩ := Option.bind_eq_some_iff.mp H
              (try dsimp -simprocs only at H)
              have A30 := Aside0.mk A300
              clear A300
              obtain ⟨⟨t185, t186⟩, A310, H⟩ := Option.bind_eq_some_iff.mp H
              (try dsimp -simprocs only at H)
              have A31 := Aside0.mk A310
              clear A310
              obtain ⟨⟨t187, t188, t189⟩, A320, H⟩ := Option.bind_eq_some_iff.mp H
              (try dsimp -simprocs only at H)
              have A32 := Aside0.mk A320
              clear A320
              obtain ⟨t191, A330, H⟩ := Option.bind_eq_some_iff.mp H
              (try dsimp -simprocs only at H)
              have A33 := Aside0.mk A330
              clear A330
              obtain ⟨t192, A340, H⟩ := Option.bind_eq_some_iff.mp H
              (try dsimp -simprocs only at H)
              have A34 := Aside0.mk A340
              clear A340
              by_cases c35 : (t191 == t192) = true
              ·
               rw [if_pos c35] at H
               have c35b0 : (t191 == t192) = true := c35
               (try (have c35b1 : decide (t191 = t192) = true := by simpa using c35))
               (try (have c35b2 : (t191 == t192) = true := by simpa using c35))
               clear c35
               obtain ⟨⟨t193, t194, t195⟩, A360, H⟩ := Option.bind_eq_some_iff.mp H
               (try dsimp -simprocs only at H)
               have A36 := Aside0.mk A360
               clear A360
               obtain ⟨t197, A370, H⟩ := Option.bind_eq_some_iff.mp H
               (try dsimp -simprocs only at H)
               have A37 := Aside0.mk A370
               clear A370
               obtain ⟨⟨t198, t199⟩, A380, H⟩ := Option.bind_eq_some_iff.mp H
               (try dsimp -simprocs only at H)
               have A38 := Aside0.mk A380
               clear A380
               simp only [Option.some.injEq, Prod.mk.injEq] at H
               obtain ⟨rfl, rfl⟩ := H
               try go_wp2_with (first | ((with_reducible refine gate_callee (f := 47) rfl ?_); refine goesL_ (some 84) rfl rfl Try.func47 (by kernel_rfl) rfl #[.int .u64 x0_25] rfl ga ?_; (with_reducible refine (word_Parts.calls kj25 x0_25 t178 t179 _ A28.out).mono ?_); rintro e w' ⟨rfl, ⟨nd, rfl⟩⟩; refine ⟨_, rfl, ?_⟩; (try (rw [drewN_self wc]; generalize hq_ : World.drewN wc _ = wc; have n0_ : Aside0 (Below w.heap.size w wc) := ⟨by rw [← hq_]; exact bel⟩; clear HB hq_; have HB := n0_; clear n0_))) | ((with_reducible refine gate_callee (f := 47) rfl ?_); refine goesL_ (some 89) rfl rfl Try.func47 (by kernel_rfl) rfl #[.int .u64 x1_25] rfl ga ?_; (with_reducible refine (word_Parts.calls kj25 x1_25 t180 t181 _ A29.out).mono ?_); rintro e w' ⟨rfl, ⟨nd, rfl⟩⟩; refine ⟨_, rfl, ?_⟩; (try (rw [drewN_self wc]; generalize hq_ : World.drewN wc _ = wc; have n0_ : Aside0 (Below w.heap.size w wc) := ⟨by rw [← hq_]; exact bel⟩; clear HB hq_; have HB := n0_; clear n0_))) | ((with_reducible refine gate_callee (f := 35) rfl ?_); refine goesL_ (some 94) rfl rfl Try.func35 (by kernel_rfl) rfl #[.agg #[.int .u64 0, .int .u64 t178], .int .i64 64] rfl ga ?_; (with_reducible refine (wide_Wide_Left.calls 0 t178 64 t182 t183 _ A30.out).mono ?_); rintro e w39 ⟨rfl, hb⟩; refine ⟨_, rfl, ?_⟩; refine ax1 (below_step bel hb) ?_; clear HB; intro HB; (try clear hb)) | ((with_reducible refine gate_dst (N := 15) rfl ?_); refine gbox (N := 15) (cs := #[.int .u64 0, .int .u64 0]) (t := 67) ?_; intro gb184 hg w40 hbox hb; refine ax4 (below_step bel hb) hbox ((ge hg : w.heap.size ≤ gb184)) ((ge hg : w.heap.size ≤ gb184)) ?_; clear HB; intro HB BK184 GW184 GE184; clear hb hbox hg; have hcz41_0 := bc BK184 0 rfl; have hcz41_1 := bc BK184 1 rfl; have hfz41_0 := blk_frozen BK184.out 0; have hfz41_1 := blk_frozen BK184.out 1) | ((with_reducible refine gate_callee (f := 35) rfl ?_); refine goesL_ (some 98) rfl rfl Try.func35 (by kernel_rfl) rfl #[.agg #[.int .u64 0, .int .u64 t180], .int .i64 64] rfl ga ?_; (with_reducible refine (wide_Wide_Left.calls 0 t180 64 t185 t186 _ A31.out).mono ?_); rintro e w42 ⟨rfl, hb⟩; refine ⟨_, rfl, ?_⟩; refine ax2 (blk_below (g := gb184) (o := .cells #[.int .u64 t182, .int .u64 t183] 67 (0, 0)) (bp BK184) hb) (below_step bes hb) ?_; clear BK184; clear HB; intro BK184 HB; (try clear hb)) | ((with_reducible refine gate_callee (f := 53) rfl ?_); refine goesL_ (some 102) rfl rfl Try.func53 (by kernel_rfl) rfl #[.agg #[.int .u64 t185, .int .u64 t186], .int .i64 (wrap64 (t179 - t181))] rfl ga ?_; (with_reducible refine (wide_Wide_Right.calls kj25 t185 t186 (wrap64 (t179 - t181)) t187 t188 t189 _ A32.out).mono ?_); rintro e w43 ⟨rfl, hb⟩; refine ⟨_, rfl, ?_⟩; refine ax2 (bb BK184 hb) (below_step bes hb) ?_; clear BK184; clear HB; intro BK184 HB; (try clear hb)) | ((with_reducible refine gate_dst (N := 16) rfl ?_); refine gbox (N := 16) (cs := #[.int .u64 0, .int .u64 0]) (t := 67) ?_; intro gb190 hg w44 hbox hb; refine ax7 (bb BK184 hb) (below_step bes hb) hbox ((ge hg : w.heap.size ≤ gb190)) ((ge hg : w.heap.size ≤ gb190)) (nl hg BK184) (ng hg BK184) ?_; clear BK184; clear HB; intro BK184 HB BK190 GW190 GE190 NB184_190 NB190_184; clear hb hbox hg; have hnb45 := NB190_184.out; have hnc45 := NB184_190.out; have hcz46_0 := bc BK190 0 rfl; have hcz46_1 := bc BK190 1 rfl; have hfz46_0 := blk_frozen BK190.out 0; have hfz46_1 := blk_frozen BK190.out 1) | ((with_reducible refine gate_callee (f := 39) rfl ?_); refine goesL_ (some 106) rfl rfl Try.func39 (by kernel_rfl) rfl #[.int .u64 x0_25] rfl ga ?_; (with_reducible refine (word_Neg.calls x0_25 t191 _ A33.out).mono ?_); rintro e w' ⟨rfl, ⟨nd, rfl⟩⟩; refine ⟨_, rfl, ?_⟩) | ((with_reducible refine gate_callee (f := 39) rfl ?_); refine goesL_ (some 108) rfl rfl Try.func39 (by kernel_rfl) rfl #[.int .u64 x1_25] rfl ga ?_; (with_reducible refine (word_Neg.calls x1_25 t192 _ A34.out).mono ?_); rintro e w' ⟨rfl, ⟨nd, rfl⟩⟩; refine ⟨_, rfl, ?_⟩; have hcz47_0 := bc BK184 0 rfl; have hcz47_1 := bc BK184 1 rfl; have hfz47_0 := blk_frozen BK184.out 0; have hfz47_1 := blk_frozen BK184.out 1) | ((with_reducible refine gate_callee (f := 34) rfl ?_); refine goesL_ (some 113) rfl rfl Try.func34 (by kernel_rfl) rfl #[.agg #[.int .u64 t182, .int .u64 t183], .agg #[.int .u64 t187, .int .u64 t188]] rfl ga ?_; (with_reducible refine (wide_Wide_Add.calls t182 t183 t187 t188 t193 t194 t195 _ A36.out).mono ?_); rintro e w48 ⟨rfl, hb⟩; refine ⟨_, rfl, ?_⟩; refine ax3 (blk_below (g := gb184) (o := .cells #[.int .u64 t182, .int .u64 t183] 67 (0, 0)) (bf BK184 NB184_190) hb) (blk_below (g := gb190) (o := .cells #[.int .u64 t187, .int .u64 t188] 67 (0, 0)) (bp BK190) hb) (below_step bes hb) ?_; clear BK184; clear BK190; clear HB; intro BK184 BK190 HB; (try clear hb)) | ((with_reducible refine gate_dst (N := 18) rfl ?_); refine gbox (N := 18) (cs := #[.int .u64 0, .int .u64 0]) (t := 67) ?_; intro gb196 hg w49 hbox hb; refine ax10 (bb BK184 hb) (bb BK190 hb) (below_step bes hb) hbox ((ge hg : w.heap.size ≤ gb196)) ((ge hg : w.heap.size ≤ gb196)) (nl hg BK184) (ng hg BK184) (nl hg BK190) (ng hg BK190) ?_; clear BK184; clear BK190; clear HB; intro BK184 BK190 HB BK196 GW196 GE196 NB184_196 NB196_184 NB190_196 NB196_190; clear hb hbox hg; have hnb50 := NB196_184.out; have hnc50 := NB184_196.out; have hnb51 := NB196_190.out; have hnc51 := NB190_196.out; have hcz52_0 := bc BK196 0 rfl; have hcz52_1 := bc BK196 1 rfl; have hfz52_0 := blk_frozen BK196.out 0; have hfz52_1 := blk_frozen BK196.out 1))
               have n0_ : Aside0 (((w49.setCell ⟨gb196, 0, none⟩ (.int .u64 t193)).setCell ⟨gb196, 1, none⟩ (.int .u64 t194)).heap[gb184]? = some (.cells #[.int .u64 t182, .int .u64 t183] 67 (0, 0))) := ⟨bf BK184 NB184_196⟩
               have n1_ : Aside0 (((w49.setCell ⟨gb196, 0, none⟩ (.int .u64 t193)).setCell ⟨gb196, 1, none⟩ (.int .u64 t194)).heap[gb190]? = some (.cells #[.int .u64 t187, .int .u64 t188] 67 (0, 0))) := ⟨bf BK190 NB190_196⟩
               have n2_ : Aside0 (((w49.setCell ⟨gb196, 0, none⟩ (.int .u64 t193)).setCell ⟨gb196, 1, none⟩ (.int .u64 t194)).heap[gb196]? = some (.cells #[.int .u64 t193, .int .u64 t194] 67 (0, 0))) := ⟨bp BK196⟩
               have n3_ : Aside0 (Below w.heap.size w ((w49.setCell ⟨gb196, 0, none⟩ (.int .u64 t193)).setCell ⟨gb196, 1, none⟩ (.int .u64 t194))) := ⟨bes⟩
               (try clear BK184)
               (try clear BK190)
               (try clear BK196)
               (try clear HB)
               generalize ((w49.setCell ⟨gb196, 0, none⟩ (.int .u64 t193)).setCell ⟨gb196, 1, none⟩ (.int .u64 t194)) = w53 at n0_ n1_ n2_ n3_ ⊢
               have BK184 := n0_
               have BK190 := n1_
               have BK196 := n2_
               have HB := n3_
               clear n0_ n1_ n2_ n3_
               refine ax4 (blk_drew BK184.out) (blk_drew BK190.out) (blk_drew BK196.out) (below_drew1 HB.out) ?_
               clear BK184 BK190 BK196 HB
               intro BK184 BK190 BK196 HB
               refine start_ (n := 11) (S := fun w' => w'.cell? ⟨gb196, 0, none⟩ = some (.int .u64 t193) ∧ w'.cell? ⟨gb196, 1, none⟩ = some (.int .u64 t194)) (ds := []) #[false, false, false, false, false, false, false, false, false, false, false] (by kernel_rfl) rfl rfl ⟨bk BK196 0, bk BK196 1⟩ (fun hHeld => ?_); refine with_tabW soft_Add.tab25 soft_Add.bits25 (fun HT_ HW_ => ?_)
               generalize w53.drew = w54 at BK184 BK190 BK196 HB hHeld ⊢
               refine pu 0 116 (lm 11 1) HT_ ?_
               refine pu 3 119 (lm 11 9) HT_ ?_
               refine pu 4 120 (lm 11 25) HT_ ?_
               refine pu 5 121 (lm 11 57) HT_ ?_
               refine ta 2 118 (lm 11 61) HT_ HW_ hHeld ?_
               refine on 1 (some 117) (lm 11 63) HT_ (fun K hK => ?_)
               refine goes_ Try.func39 (by kernel_rfl) rfl #[.int .u64 x0_25] (by rfl) rfl rfl ga ?_
               with_reducible refine (word_Neg.calls x0_25 t197 _ A37.out).mono ?_
               rintro e w' ⟨rfl, ⟨nd, rfl⟩⟩
               refine ⟨_, rfl, ?_⟩
               refine hK.out _ _ ⟨bk BK196 0, bk BK196 1⟩ (fun hHeld => ?_)
               clear hK K
               refine no 117 ?_
               refine on 6 (some 122) (lm 11 127) HT_ (fun K hK => ?_)
               refine goes_ Try.func36 (by kernel_rfl) rfl #[.bool t197, .agg #[.int .u64 t193, .int .u64 t194], .int .i64 (wrap64 (t179 - 64)), .bool t189] (by rfl) rfl rfl ga ?_
               with_reducible refine (round_Round.calls kj25 t197 t193 t194 (wrap64 (t179 - 64)) t189 t198 t199 _ A38.out).mono ?_
               rintro e w55 ⟨rfl, hb⟩
               refine ⟨_, rfl, ?_⟩
               refine ax4 (bb BK184 hb) (bb BK190 hb) (bb BK196 hb) (below_step bes hb) ?_
               clear BK184 BK190 BK196 HB
               intro BK184 BK190 BK196 HB
               (try clear hb)
               (try clear hb2)
               (try clear hk)
               (try clear hi)
               refine hK.out _ _ ⟨bk BK196 0, bk BK196 1⟩ (fun hHeld => ?_)
               clear hK K
               refine no 122 ?_
               refine pu 7 123 (lm 11 255) HT_ ?_
               refine pu 8 124 (lm 11 511) HT_ ?_
               refine pu 9 4 (lm 11 1023) HT_ ?_
               refine pu 10 5 (lm 11 2047) HT_ ?_
               refine done_ (done_of HT_.out (by kernel_rfl)) ?_
               try go_wp2
               go_ret2
               exact ⟨er, bes⟩
              ·
               rw [if_neg c35] at H
               have c35b0 : (t191 == t192) = false := by simpa using c35
               (try (have c35b1 : decide (t191 = t192) = false := by simpa using c35))
               (try (have c35b2 : (t191 == t192) = false := by simpa using c35))
               (try (have c35b3 : ¬ (t191 = t192) := by simpa using c35))
               clear c35
               have HC56 := Aside0.mk H
               clear H
               go_upto_if 125 with (first | ((with_reducible refine gate_callee (f := 47) rfl ?_); refine goesL_ (some 84) rfl rfl Try.func47 (by kernel_rfl) rfl #[.int .u64 x0_25] rfl ga ?_; (with_reducible refine (word_Parts.calls kj25 x0_25 t178 t179 _ A28.out).mono ?_); rintro e w' ⟨rfl, ⟨nd, rfl⟩⟩; refine ⟨_, rfl, ?_⟩; (try (rw [drewN_self wc]; generalize hq_ : World.drewN wc _ = wc; have n0_ : Aside0 (Below w.heap.size w wc) := ⟨by rw [← hq_]; exact bel⟩; clear HB hq_; have HB := n0_; clear n0_))) | ((with_reducible refine gate_callee (f := 47) rfl ?_); refine goesL_ (some 89) rfl rfl Try.func47 (by kernel_rfl) rfl #[.int .u64 x1_25] rfl ga ?_; (with_reducible refine (word_Parts.calls kj25 x1_25 t180 t181 _ A29.out).mono ?_); rintro e w' ⟨rfl, ⟨nd, rfl⟩⟩; refine ⟨_, rfl, ?_⟩; (try (rw [drewN_self wc]; generalize hq_ : World.drewN wc _ = wc; have n0_ : Aside0 (Below w.heap.size w wc) := ⟨by rw [← hq_]; exact bel⟩; clear HB hq_; have HB := n0_; clear n0_))) | ((with_reducible refine gate_callee (f := 35) rfl ?_); refine goesL_ (some 94) rfl rfl Try.func35 (by kernel_rfl) rfl #[.agg #[.int .u64 0, .int .u64 t178], .int .i64 64] rfl ga ?_; (with_reducible refine (wide_Wide_Left.calls 0 t178 64 t182 t183 _ A30.out).mono ?_); rintro e w57 ⟨rfl, hb⟩; refine ⟨_, rfl, ?_⟩; refine ax1 (below_step bel hb) ?_; clear HB; intro HB; (try clear hb)) | ((with_reducible refine gate_dst (N := 15) rfl ?_); refine gbox (N := 15) (cs := #[.int .u64 0, .int .u64 0]) (t := 67) ?_; intro gb184 hg w58 hbox hb; refine ax4 (below_step bel hb) hbox ((ge hg : w.heap.size ≤ gb184)) ((ge hg : w.heap.size ≤ gb184)) ?_; clear HB; intro HB BK184 GW184 GE184; clear hb hbox hg; have hcz59_0 := bc BK184 0 rfl; have hcz59_1 := bc BK184 1 rfl; have hfz59_0 := blk_frozen BK184.out 0; have hfz59_1 := blk_frozen BK184.out 1) | ((with_reducible refine gate_callee (f := 35) rfl ?_); refine goesL_ (some 98) rfl rfl Try.func35 (by kernel_rfl) rfl #[.agg #[.int .u64 0, .int .u64 t180], .int .i64 64] rfl ga ?_; (with_reducible refine (wide_Wide_Left.calls 0 t180 64 t185 t186 _ A31.out).mono ?_); rintro e w60 ⟨rfl, hb⟩; refine ⟨_, rfl, ?_⟩; refine ax2 (blk_below (g := gb184) (o := .cells #[.int .u64 t182, .int .u64 t183] 67 (0, 0)) (bp BK184) hb) (below_step bes hb) ?_; clear BK184; clear HB; intro BK184 HB; (try clear hb)) | ((with_reducible refine gate_callee (f := 53) rfl ?_); refine goesL_ (some 102) rfl rfl Try.func53 (by kernel_rfl) rfl #[.agg #[.int .u64 t185, .int .u64 t186], .int .i64 (wrap64 (t179 - t181))] rfl ga ?_; (with_reducible refine (wide_Wide_Right.calls kj25 t185 t186 (wrap64 (t179 - t181)) t187 t188 t189 _ A32.out).mono ?_); rintro e w61 ⟨rfl, hb⟩; refine ⟨_, rfl, ?_⟩; refine ax2 (bb BK184 hb) (below_step bes hb) ?_; clear BK184; clear HB; intro BK184 HB; (try clear hb)) | ((with_reducible refine gate_dst (N := 16) rfl ?_); refine gbox (N := 16) (cs := #[.int .u64 0, .int .u64 0]) (t := 67) ?_; intro gb190 hg w62 hbox hb; refine ax7 (bb BK184 hb) (below_step bes hb) hbox ((ge hg : w.heap.size ≤ gb190)) ((ge hg : w.heap.size ≤ gb190)) (nl hg BK184) (ng hg BK184) ?_; clear BK184; clear HB; intro BK184 HB BK190 GW190 GE190 NB184_190 NB190_184; clear hb hbox hg; have hnb63 := NB190_184.out; have hnc63 := NB184_190.out; have hcz64_0 := bc BK190 0 rfl; have hcz64_1 := bc BK190 1 rfl; have hfz64_0 := blk_frozen BK190.out 0; have hfz64_1 := blk_frozen BK190.out 1) | ((with_reducible refine gate_callee (f := 39) rfl ?_); refine goesL_ (some 106) rfl rfl Try.func39 (by kernel_rfl) rfl #[.int .u64 x0_25] rfl ga ?_; (with_reducible refine (word_Neg.calls x0_25 t191 _ A33.out).mono ?_); rintro e w' ⟨rfl, ⟨nd, rfl⟩⟩; refine ⟨_, rfl, ?_⟩) | ((with_reducible refine gate_callee (f := 39) rfl ?_); refine goesL_ (some 108) rfl rfl Try.func39 (by kernel_rfl) rfl #[.int .u64 x1_25] rfl ga ?_; (with_reducible refine (word_Neg.calls x1_25 t192 _ A34.out).mono ?_); rintro e w' ⟨rfl, ⟨nd, rfl⟩⟩; refine ⟨_, rfl, ?_⟩))
               (try simp only [Act.put, sa0, sa1, sa2])
               go_cut [] (fun wc => ∃ (kq : Nat) (x191000_55 : Int) (x191001_55 : Int), Aside0 (soft_Add.j3 kq x0_25 t179 t189 t182 t183 x191000_55 x191001_55 = some (r1, r2)) ∧ Aside0 (kq ≤ kj25) ∧ Aside0 (wc.heap[gb184]? = some (.cells #[.int .u64 t182, .int .u64 t183] 67 (0, 0))) ∧ Aside0 (wc.heap[gb190]? = some (.cells #[.int .u64 x191000_55, .int .u64 x191001_55] 67 (0, 0))) ∧ Aside0 (Below w.heap.size w wc))
               case first =>
                have H := HC56.out
                clear HC56
                by_cases c65 : t189 = true
                rotate_left
                ·
                 replace c65 := Bool.eq_false_iff.mpr c65
                 subst c65
                 rw [if_neg (show ¬ (false = true) by decide)] at H
                 have H' := Aside0.mk H
                 clear H
                 go_wp2
                 go_meet
                 case rel => exact ⟨_, (t187), (t188), H', ⟨by have := HJ9.out; have := HJ18.out; have := HJ25.out; first | omega | exact Nat.le_refl _⟩, ⟨bf BK184 NB184_190⟩, ⟨bp BK190⟩, ⟨bes⟩⟩
                subst c65
                rw [if_pos rfl] at H
                obtain ⟨⟨t200, t201, t202⟩, A660, H⟩ := Option.bind_eq_some_iff.mp H
                (try dsimp -simprocs only at H)
                have A66 := Aside0.mk A660
                clear A660
                have H' := Aside0.mk H
                clear H
                have hnb67 := NB190_184.out
                have hnc67 := NB184_190.out
                have hcz68_0 := bc BK190 0 rfl
                have hcz68_1 := bc BK190 1 rfl
                have hfz68_0 := blk_frozen BK190.out 0
                have hfz68_1 := blk_frozen BK190.out 1
                go_wp2_with (first | ((with_reducible refine gate_callee (f := 34) rfl ?_); refine goesL_ (some 129) rfl rfl Try.func34 (by kernel_rfl) rfl #[.agg #[.int .u64 t187, .int .u64 t188], .agg #[.int .u64 0, .int .u64 1]] rfl ga ?_; (with_reducible refine (wide_Wide_Add.calls t187 t188 0 1 t200 t201 t202 _ A66.out).mono ?_); rintro e w69 ⟨rfl, hb⟩; refine ⟨_, rfl, ?_⟩; refine ax3 (blk_below (g := gb184) (o := .cells #[.int .u64 t182, .int .u64 t183] 67 (0, 0)) (bf BK184 NB184_190) hb) (blk_below (g := gb190) (o := .cells #[.int .u64 t187, .int .u64 t188] 67 (0, 0)) (bp BK190) hb) (below_step bes hb) ?_; clear BK184; clear BK190; clear HB; intro BK184 BK190 HB; (try clear hb); have hcz70_0 := bc BK190 0 rfl; have hcz70_1 := bc BK190 1 rfl; have hfz70_0 := blk_frozen BK190.out 0; have hfz70_1 := blk_frozen BK190.out 1))
                go_meet
                case rel => exact ⟨_, (t200), (t201), H', ⟨by have := HJ9.out; have := HJ18.out; have := HJ25.out; first | omega | exact Nat.le_refl _⟩, ⟨bf BK184 NB184_190⟩, ⟨bp BK190⟩, ⟨bes⟩⟩
               case rest =>
                clear HC56
                try clear c1
                try clear c2
                try clear p2
                try clear c3
                try clear c4
                try clear c5
                try clear c6
                try clear p6
                try clear c10
                try clear c14
                try clear c14b0
                try clear c14b1
                try clear c15
                try clear c15b0
                try clear c15b1
                try clear c16
                try clear c17
                try clear c17b0
                try clear c17b1
                try clear c18
                try clear c18b0
                try clear c18b1
                try clear c20
                try clear c20b0
                try clear c20b1
                try clear c21
                try clear c22
                try clear c22b0
                try clear c22b1
                try clear c23
                try clear c23b0
                try clear c23b1
                try clear c27
                try clear c27b0
                try clear c34
                try clear c35
                try clear c35b0
                try clear c35b1
                try clear c35b2
                try clear c36
                try clear c37
                try clear c39
                try clear c45
                try clear c47
                try clear c50
                try clear c51
                try clear c53
                try clear c63
                try clear p64
                try clear c65
                try clear c67
                try clear hcz41_0
                try clear hcz41_1
                try clear hcz46_0
                try clear hcz46_1
                try clear hcz47_0
                try clear hcz47_1
                try clear hcz52_0
                try clear hcz52_1
                try clear hcz59_0
                try clear hcz59_1
                try clear hcz64_0
                try clear hcz64_1
                try clear hcz68_0
                try clear hcz68_1
                try clear hcz70_0
                try clear hcz70_1
                try clear hfz41_0
                try clear hfz41_1
                try clear hfz46_0
                try clear hfz46_1
                try clear hfz47_0
                try clear hfz47_1
                try clear hfz52_0
                try clear hfz52_1
                try clear hfz59_0
                try clear hfz59_1
                try clear hfz64_0
                try clear hfz64_1
                try clear hfz68_0
                try clear hfz68_1
                try clear hfz70_0
                try clear hfz70_1
                try clear p2
                obtain ⟨kq, x191000_55, x191001_55, HA, HJ55, BK184, BK190, HB⟩ := hcut
                cases kq with
                | zero => exact absurd HA.out (by simp [soft_Add.j3])
                | succ kj55 =>
                 have H := HA.out
                 clear HA
                 simp only [soft_Add.j3] at H
                 obtain ⟨⟨t203, t204, t205⟩, A710, H⟩ := Option.bind_eq_some_iff.mp H
                 (try dsimp -simprocs only at H)
                 have A71 := Aside0.mk A710
                 clear A710
                 have HC72 := Aside0.mk H
                 clear H
                 have hnb73 := NB184_190.out
                 have hnc73 := NB190_184.out
                 have hcz74_0 := bc BK184 0 rfl
                 have hcz74_1 := bc BK184 1 rfl
                 have hfz74_0 := blk_frozen BK184.out 0
                 have hfz74_1 := blk_frozen BK184.out 1
                 have hcz75_0 := bc BK190 0 rfl
                 have hcz75_1 := bc BK190 1 rfl
                 have hfz75_0 := blk_frozen BK190.out 0
                 have hfz75_1 := blk_frozen BK190.out 1
                 go_upto_region 29 with (first | ((with_reducible refine gate_callee (f := 55) rfl ?_); refine goesL_ (some 135) rfl rfl Try.func55 (by kernel_rfl) rfl #[.agg #[.int .u64 t182, .int .u64 t183], .agg #[.int .u64 x191000_55, .int .u64 x191001_55]] rfl ga ?_; (with_reducible refine (wide_Wide_Sub.calls t182 t183 x191000_55 x191001_55 t203 t204 t205 _ A71.out).mono ?_); rintro e w76 ⟨rfl, hb⟩; refine ⟨_, rfl, ?_⟩; refine ax3 (bb BK184 hb) (bb BK190 hb) (below_step bes hb) ?_; clear BK184; clear BK190; clear HB; intro BK184 BK190 HB; (try clear hb)) | ((with_reducible refine gate_dst (N := 20) rfl ?_); refine gbox (N := 20) (cs := #[.int .u64 0, .int .u64 0]) (t := 67) ?_; intro gb206 hg w77 hbox hb; refine ax10 (bb BK184 hb) (bb BK190 hb) (below_step bes hb) hbox ((ge hg : w.heap.size ≤ gb206)) ((ge hg : w.heap.size ≤ gb206)) (nl hg BK184) (ng hg BK184) (nl hg BK190) (ng hg BK190) ?_; clear BK184; clear BK190; clear HB; intro BK184 BK190 HB BK206 GW206 GE206 NB184_206 NB206_184 NB190_206 NB206_190; clear hb hbox hg; have hnb78 := NB206_184.out; have hnc78 := NB184_206.out; have hnb79 := NB206_190.out; have hnc79 := NB190_206.out; have hcz80_0 := bc BK206 0 rfl; have hcz80_1 := bc BK206 1 rfl; have hfz80_0 := blk_frozen BK206.out 0; have hfz80_1 := blk_frozen BK206.out 1))
                 (try simp only [Act.put, sa0, sa1, sa2])
                 go_cut [143] (fun v143 wc => ∃ (kq : Nat) (x143_71 : Bool), v143 = .bool x143_71 ∧ Aside0 (soft_Add.j4 kq x0_25 t179 t189 x143_71 t203 t204 = some (r1, r2)) ∧ Aside0 (kq ≤ kj55) ∧ Aside0 (wc.heap[gb184]? = some (.cells #[.int .u64 t182, .int .u64 t183] 67 (0, 0))) ∧ Aside0 (wc.heap[gb190]? = some (.cells #[.int .u64 x191000_55, .int .u64 x191001_55] 67 (0, 0))) ∧ Aside0 (wc.heap[gb206]? = some (.cells #[.int .u64 t203, .int .u64 t204] 67 (0, 0))) ∧ Aside0 (Below w.heap.size w wc))
                 case first =>
                  have H := HC72.out
                  clear HC72
                  obtain ⟨t207, A810, H⟩ := Option.bind_eq_some_iff.mp H
                  (try dsimp -simprocs only at H)
                  have A81 := Aside0.mk A810
                  clear A810
                  by_cases c82 : t207 = true
                  ·
                   subst c82
                   rw [if_pos rfl] at H
                   have H' := Aside0.mk H
                   clear H
                   have hnb83 := NB206_184.out
                   have hnc83 := NB184_206.out
                   have hnb84 := NB206_190.out
                   have hnc84 := NB190_206.out
                   have hcz85_0 := bc BK206 0 rfl
                   have hcz85_1 := bc BK206 1 rfl
                   have hfz85_0 := blk_frozen BK206.out 0
                   have hfz85_1 := blk_frozen BK206.out 1
                   go_wp2_with (first | ((with_reducible refine gate_callee (f := 52) rfl ?_); refine goesL_ (some 139) rfl rfl Try.func52 (by kernel_rfl) rfl #[.agg #[.int .u64 t203, .int .u64 t204]] rfl ga ?_; (with_reducible refine (wide_Wide_Zero.calls t203 t204 true _ A81.out).mono ?_); rintro e w86 ⟨rfl, hb⟩; refine ⟨_, rfl, ?_⟩; refine ax4 (blk_below (g := gb184) (o := .cells #[.int .u64 t182, .int .u64 t183] 67 (0, 0)) (bf BK184 NB184_206) hb) (blk_below (g := gb190) (o := .cells #[.int .u64 x191000_55, .int .u64 x191001_55] 67 (0, 0)) (bf BK190 NB190_206) hb) (blk_below (g := gb206) (o := .cells #[.int .u64 t203, .int .u64 t204] 67 (0, 0)) (bp BK206) hb) (below_step bes hb) ?_; clear BK184; clear BK190; clear BK206; clear HB; intro BK184 BK190 BK206 HB; (try clear hb)))
                   go_meet
                   case rel => exact ⟨_, (!t189), (by first | rfl | (simp; done) | (simp [*]; done)), H', ⟨by have := HJ9.out; have := HJ18.out; have := HJ25.out; have := HJ55.out; first | omega | exact Nat.le_refl _⟩, ⟨kb BK184⟩, ⟨kb BK190⟩, ⟨kb BK206⟩, ⟨bes⟩⟩
                  ·
                   replace c82 := Bool.eq_false_iff.mpr c82
                   subst c82
                   rw [if_neg (show ¬ (false = true) by decide)] at H
                   have H' := Aside0.mk H
                   clear H
                   have hnb87 := NB206_184.out
                   have hnc87 := NB184_206.out
                   have hnb88 := NB206_190.out
                   have hnc88 := NB190_206.out
                   have hcz89_0 := bc BK206 0 rfl
                   have hcz89_1 := bc BK206 1 rfl
                   have hfz89_0 := blk_frozen BK206.out 0
                   have hfz89_1 := blk_frozen BK206.out 1
                   go_wp2_with (first | ((with_reducible refine gate_callee (f := 52) rfl ?_); refine goesL_ (some 139) rfl rfl Try.func52 (by kernel_rfl) rfl #[.agg #[.int .u64 t203, .int .u64 t204]] rfl ga ?_; (with_reducible refine (wide_Wide_Zero.calls t203 t204 false _ A81.out).mono ?_); rintro e w90 ⟨rfl, hb⟩; refine ⟨_, rfl, ?_⟩; refine ax4 (blk_below (g := gb184) (o := .cells #[.int .u64 t182, .int .u64 t183] 67 (0, 0)) (bf BK184 NB184_206) hb) (blk_below (g := gb190) (o := .cells #[.int .u64 x191000_55, .int .u64 x191001_55] 67 (0, 0)) (bf BK190 NB190_206) hb) (blk_below (g := gb206) (o := .cells #[.int .u64 t203, .int .u64 t204] 67 (0, 0)) (bp BK206) hb) (below_step bes hb) ?_; clear BK184; clear BK190; clear BK206; clear HB; intro BK184 BK190 BK206 HB; (try clear hb)))
                   go_meet
                   case rel => exact ⟨_, (false), (by first | rfl | (simp; done) | (simp [*]; done)), H', ⟨by have := HJ9.out; have := HJ18.out; have := HJ25.out; have := HJ55.out; first | omega | exact Nat.le_refl _⟩, ⟨kb BK184⟩, ⟨kb BK190⟩, ⟨kb BK206⟩, ⟨bes⟩⟩
                 case rest =>
                  clear HC72
                  try clear c1
                  try clear c2
                  try clear p2
                  try clear c3
                  try clear c4
                  try clear c5
                  try clear c6
                  try clear p6
                  try clear c7
                  try clear c8
                  try clear c10
                  try clear c14
                  try clear c14b0
                  try clear c14b1
                  try clear c15
                  try clear c15b0
                  try clear c15b1
                  try clear c16
                  try clear c17
                  try clear c17b0
                  try clear c17b1
                  try clear c18
                  try clear c18b0
                  try clear c18b1
                  try clear c20
                  try clear c20b0
                  try clear c20b1
                  try clear c21
                  try clear c22
                  try clear c22b0
                  try clear c22b1
                  try clear c23
                  try clear c23b0
                  try clear c23b1
                  try clear c27
                  try clear c27b0
                  try clear c34
                  try clear c35
                  try clear c35b0
                  try clear c35b1
                  try clear c35b2
                  try clear c36
                  try clear c37
                  try clear c39
                  try clear c45
                  try clear c47
                  try clear c50
                  try clear c51
                  try clear c52
                  try clear c53
                  try clear c55
                  try clear c63
                  try clear p64
                  try clear c65
                  try clear c67
                  try clear c73
                  try clear c78
                  try clear c79
                  try clear c82
                  try clear c83
                  try clear c84
                  try clear c87
                  try clear c88
                  try clear hcz41_0
                  try clear hcz41_1
                  try clear hcz46_0
                  try clear hcz46_1
                  try clear hcz47_0
                  try clear hcz47_1
                  try clear hcz52_0
                  try clear hcz52_1
                  try clear hcz59_0
                  try clear hcz59_1
                  try clear hcz64_0
                  try clear hcz64_1
                  try clear hcz68_0
                  try clear hcz68_1
                  try clear hcz70_0
                  try clear hcz70_1
                  try clear hcz74_0
                  try clear hcz74_1
                  try clear hcz75_0
                  try clear hcz75_1
                  try clear hcz80_0
                  try clear hcz80_1
                  try clear hcz85_0
                  try clear hcz85_1
                  try clear hcz89_0
                  try clear hcz89_1
                  try clear hfz41_0
                  try clear hfz41_1
                  try clear hfz46_0
                  try clear hfz46_1
                  try clear hfz47_0
                  try clear hfz47_1
                  try clear hfz52_0
                  try clear hfz52_1
                  try clear hfz59_0
                  try clear hfz59_1
                  try clear hfz64_0
                  try clear hfz64_1
                  try clear hfz68_0
                  try clear hfz68_1
                  try clear hfz70_0
                  try clear hfz70_1
                  try clear hfz74_0
                  try clear hfz74_1
                  try clear hfz75_0
                  try clear hfz75_1
                  try clear hfz80_0
                  try clear hfz80_1
                  try clear hfz85_0
                  try clear hfz85_1
                  try clear hfz89_0
                  try clear hfz89_1
                  try clear p2
                  try clear p6
                  try clear p64
                  obtain ⟨kq, x143_71, rfl, HA, HJ71, BK184, BK190, BK206, HB⟩ := hcut
                  cases kq with
                  | zero => exact absurd HA.out (by simp [soft_Add.j4])
                  | succ kj71 =>
                   have H := HA.out
                   clear HA
                   simp only [soft_Add.j4] at H
                   by_cases c91 : x143_71 = true
                   ·
                    subst c91
                    rw [if_pos rfl] at H
                    simp only [Option.some.injEq, Prod.mk.injEq] at H
                    obtain ⟨rfl, rfl⟩ := H
                    go_wp2
                    go_ret2
                    exact ⟨er, bes⟩
                   ·
                    replace c91 := Bool.eq_false_iff.mpr c91
                    subst c91
                    rw [if_neg (show ¬ (false = true) by decide)] at H
                    obtain ⟨t208, A920, H⟩ := Option.bind_eq_some_iff.mp H
                    (try dsimp -simprocs only at H)
                    have A92 := Aside0.mk A920
                    clear A920
                    obtain ⟨⟨t209, t210⟩, A930, H⟩ := Option.bind_eq_some_iff.mp H
                    (try dsimp -simprocs only at H)
                    have A93 := Aside0.mk A930
                    clear A930
                    simp only [Option.some.injEq, Prod.mk.injEq] at H
                    obtain ⟨rfl, rfl⟩ := H
                    try go_wp2
                    refine ax4 (blk_drew BK184.out) (blk_drew BK190.out) (blk_drew BK206.out) (below_drew1 HB.out) ?_
                    clear BK184 BK190 BK206 HB
                    intro BK184 BK190 BK206 HB
                    refine start_ (n := 11) (S := fun w' => w'.cell? ⟨gb206, 0, none⟩ = some (.int .u64 t203) ∧ w'.cell? ⟨gb206, 1, none⟩ = some (.int .u64 t204)) (ds := []) #[false, false, false, false, false, false, false, false, false, false, false] (by kernel_rfl) rfl rfl ⟨bk BK206 0, bk BK206 1⟩ (fun hHeld => ?_); refine with_tabW soft_Add.tab31 soft_Add.bits31 (fun HT_ HW_ => ?_)
                    generalize wc.drew = w94 at BK184 BK190 BK206 HB hHeld ⊢
                    refine pu 0 144 (lm 11 1) HT_ ?_
                    refine pu 3 147 (lm 11 9) HT_ ?_
                    refine pu 4 148 (lm 11 25) HT_ ?_
                    refine pu 5 149 (lm 11 57) HT_ ?_
                    refine ta 2 146 (lm 11 61) HT_ HW_ hHeld ?_
                    refine on 1 (some 145) (lm 11 63) HT_ (fun K hK => ?_)
                    refine goes_ Try.func39 (by kernel_rfl) rfl #[.int .u64 x0_25] (by rfl) rfl rfl ga ?_
                    with_reducible refine (word_Neg.calls x0_25 t208 _ A92.out).mono ?_
                    rintro e w' ⟨rfl, ⟨nd, rfl⟩⟩
                    refine ⟨_, rfl, ?_⟩
                    refine hK.out _ _ ⟨bk BK206 0, bk BK206 1⟩ (fun hHeld => ?_)
                    clear hK K
                    refine no 145 ?_
                    refine on 6 (some 150) (lm 11 127) HT_ (fun K hK => ?_)
                    refine goes_ Try.func36 (by kernel_rfl) rfl #[.bool t208, .agg #[.int .u64 t203, .int .u64 t204], .int .i64 (wrap64 (t179 - 64)), .bool t189] (by rfl) rfl rfl ga ?_
                    with_reducible refine (round_Round.calls kj71 t208 t203 t204 (wrap64 (t179 - 64)) t189 t209 t210 _ A93.out).mono ?_
                    rintro e w95 ⟨rfl, hb⟩
                    refine ⟨_, rfl, ?_⟩
                    refine ax4 (bb BK184 hb) (bb BK190 hb) (bb BK206 hb) (below_step bes hb) ?_
                    clear BK184 BK190 BK206 HB
                    intro BK184 BK190 BK206 HB
                    (try clear hb)
                    (try clear hb2)
                    (try clear hk)
                    (try clear hi)
                    refine hK.out _ _ ⟨bk BK206 0, bk BK206 1⟩ (fun hHeld => ?_)
                    clear hK K
                    refine no 150 ?_
                    refine pu 7 151 (lm 11 255) HT_ ?_
                    refine pu 8 152 (lm 11 511) HT_ ?_
                    refine pu 9 4 (lm 11 1023) HT_ ?_
                    refine pu 10 5 (lm 11 2047) HT_ ?_
                    refine done_ (done_of HT_.out (by kernel_rfl)) ?_
                    try go_wp2
                    go_ret2
                    exact ⟨er, bes⟩

/-! ### word_Flip: function 44 -/
def word_Flip.f (a0 : Int) : Option (Int) := some (Go.bits .xor .u64 a0 9223372036854775808)
set_option maxHeartbeats 8000000 in
set_option maxRecDepth 100000 in
theorem word_Flip.calls (a0 : Int) (r : Int) (w : World) (h : word_Flip.f a0 = some r) :
  Calls Try.prog 44 #[.int .u64 a0] w fun e w' => e = .returned (.int .u64 r) ∧ Drawn0 w w' := by
 have H : (some (Go.bits .xor .u64 a0 9223372036854775808)) = some r := h
 clear h
 obtain rfl := Option.some.inj H
 go_enter Try.func44, Try.ntmps44
 go_wp2
 go_ret
 exact ⟨by first | rfl | (simp; done) | (simp [*]; done), by repeat (first | exact Drawn0.refl _ | apply Drawn0.step)⟩

/-! ### soft_Sub: function 31 -/
def soft_Sub.f (k : Nat) (a0 : Int) (a1 : Int) : Option (Int × Int) := (word_Flip.f a1).bind fun t211 => ((soft_Add.f k a0 t211).bind fun bt212 => (some (bt212.1, bt212.2)))
theorem soft_Sub.mono : ∀ a0 a1 k, LeO (soft_Sub.f k a0 a1) (soft_Sub.f (k + 1) a0 a1) := by
 intro a0 a1 k
 unfold soft_Sub.f
 repeat' with_reducible first | apply soft_Add.mono | exact LeO.refl _ | exact LeO.none _ | refine LeO.ite ?_ ?_ | refine LeO.bind ?_ (fun _ => ?_)
set_option maxHeartbeats 8000000 in
set_option maxRecDepth 100000 in
theorem soft_Sub.calls (k : Nat) (a0 : Int) (a1 : Int) (r1 : Int) (r2 : Int) (w : World) (h : soft_Sub.f k a0 a1 = some (r1, r2)) :
  Calls Try.prog 31 #[.int .u64 a0, .int .u64 a1] w fun e w' => e = .returned (.tuple #[.int .u64 r1, .int .u8 r2]) ∧ Below w.heap.size w w' := by
 have HB := Aside0.mk (Below.refl w.heap.size w)
 have H : ((word_Flip.f a1).bind fun t211 => ((soft_Add.f k a0 t211).bind fun bt212 => (some (bt212.1, bt212.2)))) = some (r1, r2) := h
 clear h
 obtain ⟨t211, A30, H⟩ := Option.bind_eq_some_iff.mp H
 (try dsimp -simprocs only at H)
 have A3 := Aside0.mk A30
 clear A30
 obtain ⟨⟨t212, t213⟩, A40, H⟩ := Option.bind_eq_some_iff.mp H
 (try dsimp -simprocs only at H)
 have A4 := Aside0.mk A40
 clear A40
 simp only [Option.some.injEq, Prod.mk.injEq] at H
 obtain ⟨rfl, rfl⟩ := H
 go_enter Try.func31, Try.ntmps31
 go_wp2_with (first | ((with_reducible refine gate_callee (f := 44) rfl ?_); refine goesL_ (some 8) rfl rfl Try.func44 (by kernel_rfl) rfl #[.int .u64 a1] rfl ga ?_; (with_reducible refine (word_Flip.calls a1 t211 _ A3.out).mono ?_); rintro e w' ⟨rfl, ⟨nd, rfl⟩⟩; refine ⟨_, rfl, ?_⟩) | ((with_reducible refine gate_callee (f := 37) rfl ?_); refine goesL_ (some 9) rfl rfl Try.func37 (by kernel_rfl) rfl #[.int .u64 a0, .int .u64 t211] rfl ga ?_; (with_reducible refine (soft_Add.calls k a0 t211 t212 t213 _ A4.out).mono ?_); rintro e w5 ⟨rfl, hb⟩; refine ⟨_, rfl, ?_⟩; refine ax1 (below_step bel hb) ?_; clear HB; intro HB; (try clear hb)))
 go_ret2
 exact ⟨er, bel⟩

/-! ### soft_Calc_Sub_nil: function 13 -/
def soft_Calc_Sub_nil.f (k : Nat)  (a1 : Int) (a2 : Int) : Option (Int) := (soft_Sub.f k a1 a2).bind fun bt218 => ((soft_Calc_note_nil.f bt218.1 bt218.2).bind fun t220 => (some t220))
theorem soft_Calc_Sub_nil.mono : ∀ a0 a1 k, LeO (soft_Calc_Sub_nil.f k a0 a1) (soft_Calc_Sub_nil.f (k + 1) a0 a1) := by
 intro a0 a1 k
 unfold soft_Calc_Sub_nil.f
 repeat' with_reducible first | apply soft_Sub.mono | exact LeO.refl _ | exact LeO.none _ | refine LeO.ite ?_ ?_ | refine LeO.bind ?_ (fun _ => ?_)
set_option maxHeartbeats 8000000 in
set_option maxRecDepth 100000 in
theorem soft_Calc_Sub_nil.calls (k : Nat)  (a1 : Int) (a2 : Int) (r : Int) (w : World) (h : soft_Calc_Sub_nil.f k a1 a2 = some r) :
  Calls Try.prog 13 #[.pointer none, .int .u64 a1, .int .u64 a2] w fun e w' => e = .returned (.int .u64 r) ∧ Below w.heap.size w w' := by
 have HB := Aside0.mk (Below.refl w.heap.size w)
 have H : ((soft_Sub.f k a1 a2).bind fun bt218 => ((soft_Calc_note_nil.f bt218.1 bt218.2).bind fun t220 => (some t220))) = some r := h
 clear h
 obtain ⟨⟨t218, t219⟩, A40, H⟩ := Option.bind_eq_some_iff.mp H
 (try dsimp -simprocs only at H)
 have A4 := Aside0.mk A40
 clear A40
 obtain ⟨t220, A50, H⟩ := Option.bind_eq_some_iff.mp H
 (try dsimp -simprocs only at H)
 have A5 := Aside0.mk A50
 clear A50
 obtain rfl := Option.some.inj H
 go_enter Try.func13, Try.ntmps13
 go_wp2_with (first | ((with_reducible refine gate_callee (f := 31) rfl ?_); refine goesL_ (some 10) rfl rfl Try.func31 (by kernel_rfl) rfl #[.int .u64 a1, .int .u64 a2] rfl ga ?_; (with_reducible refine (soft_Sub.calls k a1 a2 t218 t219 _ A4.out).mono ?_); rintro e w6 ⟨rfl, hb⟩; refine ⟨_, rfl, ?_⟩; refine ax1 (below_step bel hb) ?_; clear HB; intro HB; (try clear hb)) | ((with_reducible refine gate_callee (f := 30) rfl ?_); refine goesL_ (some 13) rfl rfl Try.func30 (by kernel_rfl) rfl #[.pointer none, .int .u64 t218, .int .u8 t219] rfl ga ?_; (with_reducible refine (soft_Calc_note_nil.calls  t218 t219 t220 _ A5.out).mono ?_); rintro e w' ⟨rfl, ⟨nd, rfl⟩⟩; refine ⟨_, rfl, ?_⟩))
 go_ret
 exact ⟨er, bel⟩

/-! ### bits_Mul64: function 57 -/
def bits_Mul64.f (a0 : Int) (a1 : Int) : Option (Int × Int) := some (IntKind.u64.wrap ((IntKind.u64.wrap ((IntKind.u64.wrap ((a0 / 4294967296) * (a1 / 4294967296))) + ((IntKind.u64.wrap ((IntKind.u64.wrap ((a0 / 4294967296) * (Go.bits .and .u64 a1 4294967295))) + ((IntKind.u64.wrap ((Go.bits .and .u64 a0 4294967295) * (Go.bits .and .u64 a1 4294967295))) / 4294967296))) / 4294967296))) + ((IntKind.u64.wrap ((Go.bits .and .u64 (IntKind.u64.wrap ((IntKind.u64.wrap ((a0 / 4294967296) * (Go.bits .and .u64 a1 4294967295))) + ((IntKind.u64.wrap ((Go.bits .and .u64 a0 4294967295) * (Go.bits .and .u64 a1 4294967295))) / 4294967296))) 4294967295) + (IntKind.u64.wrap ((Go.bits .and .u64 a0 4294967295) * (a1 / 4294967296))))) / 4294967296)), IntKind.u64.wrap (a0 * a1))
set_option maxHeartbeats 8000000 in
set_option maxRecDepth 100000 in
theorem bits_Mul64.calls (a0 : Int) (a1 : Int) (r1 : Int) (r2 : Int) (w : World) (h : bits_Mul64.f a0 a1 = some (r1, r2)) :
  Calls Try.prog 57 #[.int .u64 a0, .int .u64 a1] w fun e w' => e = .returned (.tuple #[.int .u64 r1, .int .u64 r2]) ∧ Drawn0 w w' := by
 have H : (some (IntKind.u64.wrap ((IntKind.u64.wrap ((IntKind.u64.wrap ((a0 / 4294967296) * (a1 / 4294967296))) + ((IntKind.u64.wrap ((IntKind.u64.wrap ((a0 / 4294967296) * (Go.bits .and .u64 a1 4294967295))) + ((IntKind.u64.wrap ((Go.bits .and .u64 a0 4294967295) * (Go.bits .and .u64 a1 4294967295))) / 4294967296))) / 4294967296))) + ((IntKind.u64.wrap ((Go.bits .and .u64 (IntKind.u64.wrap ((IntKind.u64.wrap ((a0 / 4294967296) * (Go.bits .and .u64 a1 4294967295))) + ((IntKind.u64.wrap ((Go.bits .and .u64 a0 4294967295) * (Go.bits .and .u64 a1 4294967295))) / 4294967296))) 4294967295) + (IntKind.u64.wrap ((Go.bits .and .u64 a0 4294967295) * (a1 / 4294967296))))) / 4294967296)), IntKind.u64.wrap (a0 * a1))) = some (r1, r2) := h
 clear h
 simp only [Option.some.injEq, Prod.mk.injEq] at H
 obtain ⟨rfl, rfl⟩ := H
 go_enter Try.func57, Try.ntmps57
 go_wp2
 go_ret2
 exact ⟨by first | rfl | (simp; done) | (simp [*]; done), by repeat (first | exact Drawn0.refl _ | apply Drawn0.step)⟩

/-! ### wide_Mul: function 48 -/
def wide_Mul.f (a0 : Int) (a1 : Int) : Option (Int × Int) := (bits_Mul64.f a0 a1).bind fun bt222 => (some (bt222.1, bt222.2))
set_option maxHeartbeats 8000000 in
set_option maxRecDepth 100000 in
theorem wide_Mul.calls (a0 : Int) (a1 : Int) (r1 : Int) (r2 : Int) (w : World) (h : wide_Mul.f a0 a1 = some (r1, r2)) :
  Calls Try.prog 48 #[.int .u64 a0, .int .u64 a1] w fun e w' => e = .returned (.agg #[.int .u64 r1, .int .u64 r2]) ∧ Below w.heap.size w w' := by
 have hu67 := Try.underlying67
 have HB := Aside0.mk (Below.refl w.heap.size w)
 have H : ((bits_Mul64.f a0 a1).bind fun bt222 => (some (bt222.1, bt222.2))) = some (r1, r2) := h
 clear h
 obtain ⟨⟨t222, t223⟩, A30, H⟩ := Option.bind_eq_some_iff.mp H
 (try dsimp -simprocs only at H)
 have A3 := Aside0.mk A30
 clear A30
 simp only [Option.some.injEq, Prod.mk.injEq] at H
 obtain ⟨rfl, rfl⟩ := H
 go_enter Try.func48, Try.ntmps48
 go_wp2_with (first | ((with_reducible refine gate_dst (N := 4) rfl ?_); refine gbox (N := 4) (cs := #[.int .u64 0, .int .u64 0]) (t := 67) ?_; intro gb221 hg w4 hbox hb; refine ax4 (below_step bel hb) hbox ((ge hg : w.heap.size ≤ gb221)) ((ge hg : w.heap.size ≤ gb221)) ?_; clear HB; intro HB BK221 GW221 GE221; clear hb hbox hg) | ((with_reducible refine gate_callee (f := 57) rfl ?_); refine goesL_ (some 10) rfl rfl Try.func57 (by kernel_rfl) rfl #[.int .u64 a0, .int .u64 a1] rfl ga ?_; (with_reducible refine (bits_Mul64.calls a0 a1 t222 t223 _ A3.out).mono ?_); rintro e w' ⟨rfl, ⟨nd, rfl⟩⟩; refine ⟨_, rfl, ?_⟩; (try (rw [drewN_self w4]; generalize hq_ : World.drewN w4 _ = w4; have n0_ : Aside0 (w4.heap[gb221]? = some (.cells #[.int .u64 0, .int .u64 0] 67 (0, 0))) := ⟨by rw [← hq_]; exact (kb BK221)⟩; have n1_ : Aside0 (Below w.heap.size w w4) := ⟨by rw [← hq_]; exact bes⟩; clear BK221 HB hq_; have BK221 := n0_; have HB := n1_; clear n0_ n1_)); have hcz5_0 := bc BK221 0 rfl; have hcz5_1 := bc BK221 1 rfl; have hfz5_0 := blk_frozen BK221.out 0; have hfz5_1 := blk_frozen BK221.out 1))
 refine bodyPost_ret (results_cell_row rfl _ _ gb221 67 #[.int .u64 t222, .int .u64 t223] (0, 0) _ rfl (bp BK221) Try.underlying67 rfl (by kernel_rfl)) rfl ?_
 exact ⟨er, bes⟩

end Go.Proofs.Ytnjobojkoaknpaa.F
