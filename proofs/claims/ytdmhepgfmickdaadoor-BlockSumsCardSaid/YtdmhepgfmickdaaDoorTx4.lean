/- Texts of this claim, one behind the other: what the functions answer. -/
import Derived.Test.YtdmhepgfmickdaaDoorTx3
import Derived.Test.YtdmhepgfmickdaaDoorRx0
set_option linter.constructorNameAsVariable false
set_option linter.unusedSimpArgs false
set_option linter.unusedVariables false
set_option linter.unusedSectionVars false
namespace Gim
open Go Go.RowKit Go.Proofs.YtdmhepgfmickdaaDoorW.PrintWords Go.Proofs.YtdmhepgfmickdaaDoorW.PrintLast Go.Proofs.YtdmhepgfmickdaaDoorW.PrintMore Go.Proofs.YtdmhepgfmickdaaDoor.F
set_option linter.unusedVariables false

def rsgn (x : Rat) : Int := if x = 0 then 0 else if x < 0 then -1 else 1
theorem Nm.zero {E : Int} (hE : 0 ≤ E) : Nm E 0 false [] 0 :=
  ⟨⟨Dig.nil, fun h => absurd rfl h, .inl ⟨rfl, rfl, rfl⟩⟩, by unfold nval; simp [nv], by omega, by simp [nv]; exact Rat.le_of_lt (pw_pos E)⟩
theorem num_sub_ev {E : Int} {x y : Rat} {n n' : Bool} {m m' : List Int} {e e' : Int} (hE0 : 0 ≤ E) (hE : E ≤ 1000000) (a : Nm E x n m e) (b : Nm E y n' m' e') :
    ∃ r l f, Ev (fun K => dyad_Num_Sub.f K n m e n' m' e') (r, l, f) ∧ Nm (E + 1) (x - y) r l f := by
  obtain ⟨q, e1, nm⟩ := neg_ev b
  obtain ⟨r, l, f, ev, nm2⟩ := num_add_ev hE0 hE a nm
  refine ⟨r, l, f, ?_, by rw [Rat.sub_eq_add_neg]; exact nm2⟩
  unfold dyad_Num_Sub.f
  exact Ev.call e1 (Ev.bind ev (Ev.now _))
theorem sign_eq {E : Int} {x : Rat} {n : Bool} {m : List Int} {e : Int} (a : Nm E x n m e) : dyad_Num_Sign.f n m e = some (rsgn x) := by
  have hx := a.val
  rw [nval_sgd] at hx
  unfold dyad_Num_Sign.f rsgn
  by_cases h : m = []
  · have h0 : x = 0 := by rw [← hx, h]; unfold sgd; cases n <;> simp [nv]
    rw [if_pos (by rw [h]; rfl), if_pos h0]
  · have hp := nv_pos a.can.2.1 h
    have hl : ¬ ((m.length : Int) = 0) := by have := List.length_pos_iff.mpr h; omega
    have h0 : x ≠ 0 := by
      intro h0
      rw [h0] at hx
      have := int_pw_zero.mp hx
      unfold sgd at this; split at this <;> omega
    rw [if_neg hl, if_neg h0]
    have hs : x < 0 ↔ n = true := by
      rw [← hx, int_pw_neg]
      unfold sgd; cases n <;> simp <;> omega
    cases n
    · rw [if_neg (by decide), if_neg (by rw [hs]; decide)]
    · rw [if_pos rfl, if_pos (hs.mpr rfl)]
theorem num_cmp_ev {E : Int} {x y : Rat} {n n' : Bool} {m m' : List Int} {e e' : Int} (hE0 : 0 ≤ E) (hE : E ≤ 1000000) (a : Nm E x n m e) (b : Nm E y n' m' e') :
    Ev (fun K => dyad_Num_Cmp.f K n m e n' m' e') (rsgn (x - y)) := by
  obtain ⟨r, l, f, ev, nm⟩ := num_sub_ev hE0 hE a b
  unfold dyad_Num_Cmp.f
  exact Ev.bind ev (Ev.call (sign_eq nm) (Ev.now _))
theorem abs_ev {E : Int} {x : Rat} {n : Bool} {m : List Int} {e : Int} (a : Nm E x n m e) : dyad_Num_Abs.f n m e = some (false, m, e) ∧ Nm E (rabs x) false m e := by
  refine ⟨rfl, ?_, ?_, a.lo, a.hi⟩
  · refine ⟨a.can.1, a.can.2.1, ?_⟩
    rcases a.can.2.2 with ⟨h1, h2, h3⟩ | h
    · exact .inl ⟨h1, rfl, h3⟩
    · exact .inr h
  · have hx := a.val
    rw [nval_sgd] at hx
    rw [← hx, rabs_sgd n (nv_bounds a.can.1).1]
    unfold nval; simp

theorem int_ev {z : Int} (h0 : -9223372036854775808 ≤ z) (h1 : z ≤ 9223372036854775807) : ∃ r l f, Ev (fun K => dyad_Int.f K z) (r, l, f) ∧ Nm 64 (z : Rat) r l f := by
  have hb := int_bounds (z := z) (E := 64) (by decide) (by rw [p2_64]; omega) (by rw [p2_64]; omega)
  have wrap : ∀ {r : Bool} {l : List Int} {f : Int}, Gim.Can r l f → nval r l f = (z : Rat) → Nm 64 (z : Rat) r l f :=
    fun c h => Nm.of (by decide) c h hb.1 hb.2.1 hb.2.2
  by_cases c : z < 0
  · have w : IntKind.u64.wrap (-(IntKind.u64.wrap z)) = -z := by rw [wu64_mod, wu64_mod]; omega
    obtain ⟨dg, vl⟩ := nv_two (u := -z) (by omega) (by omega)
    obtain ⟨r, l, f, ev, cn, v⟩ := trim_ev (neg := true) (e := 0) dg (by simp) (by decide) (by decide)
    refine ⟨r, l, f, ?_, wrap cn ?_⟩
    · unfold dyad_Int.f
      rw [w, decide_eq_true c]
      exact Ev.pos c (Ev.bind ev (Ev.now _))
    · rw [v]; unfold nval; rw [vl, pw_zero]; push_cast; simp
  · have w : IntKind.u64.wrap z = z := wu64 (by omega) (by omega)
    obtain ⟨dg, vl⟩ := nv_two (u := z) (by omega) (by omega)
    obtain ⟨r, l, f, ev, cn, v⟩ := trim_ev (neg := false) (e := 0) dg (by simp) (by decide) (by decide)
    refine ⟨r, l, f, ?_, wrap cn ?_⟩
    · unfold dyad_Int.f
      rw [w, decide_eq_false c]
      exact Ev.neg c (Ev.bind ev (Ev.now _))
    · rw [v]; unfold nval; rw [vl, pw_zero]; simp
end Gim
namespace Gim
open Go Go.RowKit Go.Proofs.YtdmhepgfmickdaaDoorW.PrintWords Go.Proofs.YtdmhepgfmickdaaDoorW.PrintLast Go.Proofs.YtdmhepgfmickdaaDoorW.PrintMore Go.Proofs.YtdmhepgfmickdaaDoor.F
set_option linter.unusedVariables false
set_option linter.unusedSectionVars false

theorem law_exact {a : Int} (ha : U a) (fa : fin a) : ∃ r l f, Ev (fun K => gimballaw15_exact.f K a) (r, l, f) ∧ Nm 1074 (val a) r l f := by
  obtain ⟨r, l, f, ev, nm⟩ := of_ev rfl ha fa
  refine ⟨r, l, f, ?_, nm⟩
  unfold gimballaw15_exact.f
  exact Ev.bind ev (Ev.now _)
theorem law_four {a b c d : Int} (ua : U a) (ub : U b) (uc : U c) (ud : U d) (fa : fin a) (fb : fin b) (fc : fin c) (fd : fin d) : ∃ r1 l1 f1 r2 l2 f2 r3 l3 f3 r4 l4 f4,
    Ev (fun K => gimballaw15_four.f K a b c d) (r1, l1, f1, r2, l2, f2, r3, l3, f3, r4, l4, f4) ∧ Nm 1074 (val a) r1 l1 f1 ∧ Nm 1074 (val b) r2 l2 f2 ∧ Nm 1074 (val c) r3 l3 f3 ∧ Nm 1074 (val d) r4 l4 f4 := by
  obtain ⟨r1, l1, f1, e1, n1⟩ := law_exact ua fa
  obtain ⟨r2, l2, f2, e2, n2⟩ := law_exact ub fb
  obtain ⟨r3, l3, f3, e3, n3⟩ := law_exact uc fc
  obtain ⟨r4, l4, f4, e4, n4⟩ := law_exact ud fd
  refine ⟨r1, l1, f1, r2, l2, f2, r3, l3, f3, r4, l4, f4, ?_, n1, n2, n3, n4⟩
  unfold gimballaw15_four.f
  exact Ev.bind e1 (Ev.bind e2 (Ev.bind e3 (Ev.bind e4 (Ev.now _))))
/-- One step of a sum of squares. -/
theorem sqr_step {x y s : Rat} {n n' n2 : Bool} {m m' m2 : List Int} {e e' e2 E : Int} (a : Nm 5000 x n m e) (b : Nm 5000 y n' m' e') (c : Nm E s n2 m2 e2) (h0 : 10002 ≤ E) (h1 : E ≤ 20000) :
    ∃ r1 l1 f1 r2 l2 f2 r3 l3 f3, Ev (fun K => dyad_Num_Sub.f K n m e n' m' e') (r1, l1, f1) ∧ Ev (fun K => dyad_Num_Mul.f K r1 l1 f1 r1 l1 f1) (r2, l2, f2) ∧ Ev (fun K => dyad_Num_Add.f K n2 m2 e2 r2 l2 f2) (r3, l3, f3) ∧ Nm (E + 1) (s + (x - y) * (x - y)) r3 l3 f3 := by
  obtain ⟨r1, l1, f1, e1, n1⟩ := num_sub_ev (by decide) (by decide) a b
  obtain ⟨r2, l2, f2, e2, n2⟩ := num_mul_ev (by decide) (by decide) (by decide) (by decide) n1 n1
  obtain ⟨r3, l3, f3, e3, n3⟩ := num_add_ev (by omega) (by omega) c (n2.mono (by omega))
  exact ⟨r1, l1, f1, r2, l2, f2, r3, l3, f3, e1, e2, e3, n3⟩
theorem w01 : wrap64 (0 + 1) = 1 := by decide +kernel
theorem w12 : wrap64 (1 + 1) = 2 := by decide +kernel
theorem w23 : wrap64 (2 + 1) = 3 := by decide +kernel
theorem w34 : wrap64 (3 + 1) = 4 := by decide +kernel
section
variable {x0 x1 x2 x3 : Rat} {a0 a3 a6 a9 : Bool} {l1 l4 l7 l10 : List Int} {a2 a5 a8 a11 : Int}
  (hx0 : Nm 5000 x0 a0 l1 a2) (hx1 : Nm 5000 x1 a3 l4 a5) (hx2 : Nm 5000 x2 a6 l7 a8) (hx3 : Nm 5000 x3 a9 l10 a11)
include hx0 hx1 hx2 hx3
theorem size_ev : ∃ r l f, Ev (fun K => gimballaw15_square_v2.f K a0 l1 a2 a3 l4 a5 a6 l7 a8 a9 l10 a11 false 0 false 0 false 0 false 0) (r, l, f) ∧ Nm 10010 (x0 * x0 + x1 * x1 + x2 * x2 + x3 * x3) r l f := by
  have z : Nm 5000 0 false [] 0 := Nm.zero (by decide)
  obtain ⟨r1, s1, f1, r2, s2, f2, r3, s3, f3, e1, e2, e3, n3⟩ := sqr_step hx0 z (Nm.zero (E := 10002) (by decide)) (by decide) (by decide)
  obtain ⟨r4, s4, f4, r5, s5, f5, r6, s6, f6, e4, e5, e6, n6⟩ := sqr_step hx1 z n3 (by decide) (by decide)
  obtain ⟨r7, s7, f7, r8, s8, f8, r9, s9, f9, e7, e8, e9, n9⟩ := sqr_step hx2 z n6 (by decide) (by decide)
  obtain ⟨r10, s10, f10, r11, s11, f11, r12, s12, f12, e10, e11, e12, n12⟩ := sqr_step hx3 z n9 (by decide) (by decide)
  refine ⟨r12, s12, f12, ?_, by
    have := n12.mono (show (10002 : Int) + 1 + 1 + 1 + 1 ≤ 10010 by decide)
    rw [show (0 : Rat) + (x0 - 0) * (x0 - 0) + (x1 - 0) * (x1 - 0) + (x2 - 0) * (x2 - 0) + (x3 - 0) * (x3 - 0) = x0 * x0 + x1 * x1 + x2 * x2 + x3 * x3 by grind] at this
    exact this⟩
  unfold gimballaw15_square_v2.f
  refine Ev.succ ?_
  simp only [gimballaw15_square_v2.l0, w01, w12, w23, w34]
  refine Ev.pos (by decide) (Ev.pos (by decide) (Ev.bind e1 (Ev.bind e2 (Ev.bind e3 (Ev.succ ?_)))))
  simp only [gimballaw15_square_v2.l0, w01, w12, w23, w34]
  refine Ev.pos (by decide) (Ev.neg (by decide) (Ev.pos (by decide) (Ev.bind e4 (Ev.bind e5 (Ev.bind e6 (Ev.succ ?_))))))
  simp only [gimballaw15_square_v2.l0, w01, w12, w23, w34]
  refine Ev.pos (by decide) (Ev.neg (by decide) (Ev.neg (by decide) (Ev.pos (by decide) (Ev.bind e7 (Ev.bind e8 (Ev.bind e9 (Ev.succ ?_)))))))
  simp only [gimballaw15_square_v2.l0, w01, w12, w23, w34]
  refine Ev.pos (by decide) (Ev.neg (by decide) (Ev.neg (by decide) (Ev.neg (by decide) (Ev.pos (by decide) (Ev.bind e10 (Ev.bind e11 (Ev.bind e12 (Ev.succ ?_))))))))
  simp only [gimballaw15_square_v2.l0, w01, w12, w23, w34]
  exact Ev.neg (by decide) (Ev.now _)
end
theorem rsgn_le0 {x : Rat} (h : x ≤ 0) : rsgn x ≤ 0 := by
  unfold rsgn
  split
  · decide
  · split
    · decide
    · rename_i h1 h2
      exfalso
      grind
/-- The greatest number's square is not above the sum of the squares. -/
theorem max_sq {A B C D m : Rat} (h : m = rabs A ∨ m = rabs B ∨ m = rabs C ∨ m = rabs D) : m * m ≤ A * A + B * B + C * C + D * D := by
  have a := sq_nn A
  have b := sq_nn B
  have c := sq_nn C
  have d := sq_nn D
  rcases h with h | h | h | h <;> rw [h, rabs_sq] <;> grind
/-- The sum of a turned block's diagonal, and its determinant. -/
theorem sums_near {c n A B C D sA sB sC sD m : Rat} (h : Near c n A B C D sA sB sC sD (170 * (ulp * m))) (o : rabs (c * c + n * n - 1) ≤ 45 * ulp) (hA : rabs A ≤ m) (hB : rabs B ≤ m) (hC : rabs C ≤ m) (hD : rabs D ≤ m) :
    rabs (A + D - (sA + sD)) ≤ 440 * (ulp * m) ∧ rabs (A * D - B * C - (sA * sD - sB * sC)) ≤ 1600 * (ulp * (m * m)) ∧ rabs (sA + sD) ≤ 5 * m := by
  have u := u_small
  have m0 : 0 ≤ m := Rat.le_trans (rabs_nonneg _) hA
  have um := uu m0
  obtain ⟨h1, h2, h3, h4⟩ := h
  obtain ⟨z00, e00⟩ : ∃ z, z = c * (c * A + n * C) + n * (c * B + n * D) := ⟨_, rfl⟩
  obtain ⟨z01, e01⟩ : ∃ z, z = c * (c * B + n * D) - n * (c * A + n * C) := ⟨_, rfl⟩
  obtain ⟨z10, e10⟩ : ∃ z, z = c * (c * C - n * A) + n * (c * D - n * B) := ⟨_, rfl⟩
  obtain ⟨z11, e11⟩ : ∃ z, z = c * (c * D - n * B) - n * (c * C - n * A) := ⟨_, rfl⟩
  rw [← e00] at h1
  rw [← e01] at h2
  rw [← e10] at h3
  rw [← e11] at h4
  have lo := absle.mp o
  have tr : z00 + z11 = (c * c + n * n - 1) * (A + D) + (A + D) := by rw [e00, e11]; grind
  have aD : rabs (A + D) ≤ 2 * m := by have := rabs_add A D; grind
  have t1 := mulB o aD
  have t2 : 45 * ulp * (2 * m) = 90 * (ulp * m) := by grind
  rw [t2] at t1
  have l1 := absle.mp h1
  have l4 := absle.mp h4
  have lt := absle.mp t1
  have T : rabs (A + D - (sA + sD)) ≤ 440 * (ulp * m) := by
    rw [absle]
    generalize (c * c + n * n - 1) * (A + D) = w at *
    grind
  refine ⟨T, ?_, ?_⟩
  · -- how great the entries are
    have cc := sq_nn c
    have nn := sq_nn n
    have cn : 2 * rabs (c * n) ≤ c * c + n * n := two_le c n
    have g : ∀ {p q r s z : Rat}, rabs p ≤ m → rabs q ≤ m → rabs r ≤ m → rabs s ≤ m → z = c * c * p + c * n * q + c * n * r + n * n * s → rabs z ≤ 201 / 100 * m := fun {p q r s z} hp hq hr hs e => by
      have a1 := absle.mp (mulB (show rabs (c * c) ≤ c * c by rw [rabs_of_nonneg cc]; exact Rat.le_refl) hp)
      have a2 := absle.mp (mulB (Rat.le_refl (a := rabs (c * n))) hq)
      have a3 := absle.mp (mulB (Rat.le_refl (a := rabs (c * n))) hr)
      have a4 := absle.mp (mulB (show rabs (n * n) ≤ n * n by rw [rabs_of_nonneg nn]; exact Rat.le_refl) hs)
      have k1 := Rat.mul_le_mul_of_nonneg_right cn m0
      have k2 := Rat.mul_le_mul_of_nonneg_right (show c * c + n * n ≤ 1001 / 1000 by grind) m0
      rw [e, absle]
      generalize rabs (c * n) = w at *
      grind
    have ng : ∀ {x : Rat}, rabs x ≤ m → rabs (-x) ≤ m := fun h => by rw [rabs_neg]; exact h
    have g00 : rabs z00 ≤ 201 / 100 * m := g hA hC hB hD (by rw [e00]; grind)
    have g01 : rabs z01 ≤ 201 / 100 * m := g hB hD (ng hA) (ng hC) (by rw [e01]; grind)
    have g10 : rabs z10 ≤ 201 / 100 * m := g hC (ng hA) hD (ng hB) (by rw [e10]; grind)
    have g11 : rabs z11 ≤ 201 / 100 * m := g hD (ng hB) (ng hC) hA (by rw [e11]; grind)
    -- the determinant
    have l2 := absle.mp h2
    have l3 := absle.mp h3
    have sAm : rabs sA ≤ 202 / 100 * m := by have := absle.mp g00; rw [absle]; grind
    have sBm : rabs sB ≤ 202 / 100 * m := by have := absle.mp g01; rw [absle]; grind
    have k : ∀ {x y : Rat}, rabs x ≤ 170 * (ulp * m) → rabs y ≤ 202 / 100 * m → rabs (x * y) ≤ 344 * (ulp * (m * m)) := fun {x y} hx hy => by
      have a := mulB hx hy
      have e : 170 * (ulp * m) * (202 / 100 * m) = 170 * 202 / 100 * (ulp * (m * m)) := by grind
      rw [e] at a
      have := Rat.mul_nonneg (Rat.le_of_lt u.1) (sq_nn m)
      grind
    have up : ∀ {x : Rat}, rabs x ≤ 201 / 100 * m → rabs x ≤ 202 / 100 * m := fun h => by grind
    have d1 := absle.mp (k h1 (up g11))
    have d2 := absle.mp (k h4 sAm)
    have d3 := absle.mp (k h2 (up g10))
    have d4 := absle.mp (k h3 sBm)
    have dz : z00 * z11 - z01 * z10 = (c * c + n * n) * (c * c + n * n) * (A * D - B * C) := by rw [e00, e01, e10, e11]; grind
    have b1 : rabs (A * D - B * C) ≤ 2 * (m * m) := by
      have x1 := absle.mp (mulB hA hD)
      have x2 := absle.mp (mulB hB hC)
      rw [absle]; grind
    have b2 : rabs ((c * c + n * n) * (c * c + n * n) - 1) ≤ 91 * ulp := by
      have e : (c * c + n * n) * (c * c + n * n) - 1 = (c * c + n * n - 1) * (c * c + n * n + 1) := by grind
      have x1 : rabs (c * c + n * n + 1) ≤ 2001 / 1000 := by rw [absle]; grind
      rw [e]
      have := mulB o x1
      grind
    have b3 := absle.mp (mulB b2 b1)
    have mm := Rat.mul_nonneg (Rat.le_of_lt u.1) (sq_nn m)
    have e91 : 91 * ulp * (2 * (m * m)) = 182 * (ulp * (m * m)) := by grind
    rw [e91] at b3
    have all : A * D - B * C - (sA * sD - sB * sC) = -(((c * c + n * n) * (c * c + n * n) - 1) * (A * D - B * C)) + ((z00 - sA) * z11 + (z11 - sD) * sA - (z01 - sB) * z10 - (z10 - sC) * sB) := by
      have : ((c * c + n * n) * (c * c + n * n) - 1) * (A * D - B * C) = (z00 * z11 - z01 * z10) - (A * D - B * C) := by rw [dz]; grind
      rw [this]; grind
    rw [all, absle]
    generalize ((c * c + n * n) * (c * c + n * n) - 1) * (A * D - B * C) = w at *
    generalize (z00 - sA) * z11 = w1 at *
    generalize (z11 - sD) * sA = w2 at *
    generalize (z01 - sB) * z10 = w3 at *
    generalize (z10 - sC) * sB = w4 at *
    grind
  · have := absle.mp T
    have := absle.mp aD
    rw [absle]; grind
end Gim
