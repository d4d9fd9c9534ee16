/- Texts of this claim, one behind the other: what the functions answer. -/
import Derived.Test.YtdmhepgfmickdaaDoorTx1
set_option linter.constructorNameAsVariable false
set_option linter.unusedSimpArgs false
set_option linter.unusedVariables false
set_option linter.unusedSectionVars false
namespace Gim
open Go Go.RowKit Go.Proofs.YtdmhepgfmickdaaDoorW.PrintWords Go.Proofs.YtdmhepgfmickdaaDoorW.PrintLast Go.Proofs.YtdmhepgfmickdaaDoorW.PrintMore Go.Proofs.YtdmhepgfmickdaaDoor.F
set_option linter.unusedVariables false
set_option linter.unusedSectionVars false

theorem absle {x e : Rat} : rabs x ≤ e ↔ -e ≤ x ∧ x ≤ e := by unfold rabs; split <;> constructor <;> intro h <;> grind
theorem mulB {x y a b : Rat} (hx : rabs x ≤ a) (hy : rabs y ≤ b) : rabs (x * y) ≤ a * b := by
  rw [rabs_mul]
  have h1 := Rat.mul_le_mul_of_nonneg_right hx (rabs_nonneg y)
  have h2 := Rat.mul_le_mul_of_nonneg_left hy (Rat.le_trans (rabs_nonneg x) hx)
  exact Rat.le_trans h1 h2
theorem rabs_self (x : Rat) : x ≤ rabs x ∧ -x ≤ rabs x := by unfold rabs; split <;> constructor <;> grind
theorem rabs_sq (x : Rat) : rabs x * rabs x = x * x := by unfold rabs; split <;> grind
theorem u_small : 0 < ulp ∧ ulp ≤ 1 / 1000000 := ⟨ulp_pos, by decide +kernel⟩
theorem uu {x : Rat} (h : 0 ≤ x) : 0 ≤ ulp * x ∧ ulp * x ≤ x / 1000000 := by
  refine ⟨Rat.mul_nonneg (Rat.le_of_lt ulp_pos) h, ?_⟩
  have := Rat.mul_le_mul_of_nonneg_right u_small.2 h
  grind
theorem uul {x y : Rat} (h : x ≤ y) : ulp * x ≤ ulp * y := Rat.mul_le_mul_of_nonneg_left h (Rat.le_of_lt ulp_pos)
/-- Errors of products of what is known but for a relative error. -/
theorem prod_err {P z R C : Rat} (h1 : rabs (P - z) ≤ ulp * rabs z) (h2 : rabs (R - C) ≤ ulp * rabs C) : rabs (P * R - z * C) ≤ 21 / 10 * (ulp * rabs (z * C)) := by
  have a := mulB h1 (show rabs C ≤ rabs C from Rat.le_refl)
  have b := mulB (show rabs z ≤ rabs z from Rat.le_refl) h2
  have c := mulB h1 h2
  have e : P * R - z * C = (P - z) * C + z * (R - C) + (P - z) * (R - C) := by grind
  have t1 := rabs_add ((P - z) * C + z * (R - C)) ((P - z) * (R - C))
  have t2 := rabs_add ((P - z) * C) (z * (R - C))
  rw [← e] at t1
  rw [rabs_mul z C]
  have n : 0 ≤ rabs z * rabs C := Rat.mul_nonneg (rabs_nonneg _) (rabs_nonneg _)
  have k := uu (uu n).1
  have k2 := (uu n).1
  have e2 : ulp * rabs z * (ulp * rabs C) = ulp * (ulp * (rabs z * rabs C)) := by grind
  rw [e2] at c
  have e3 : ulp * rabs z * rabs C = ulp * (rabs z * rabs C) := by grind
  have e4 : rabs z * (ulp * rabs C) = ulp * (rabs z * rabs C) := by grind
  rw [e3] at a
  rw [e4] at b
  grind
theorem sq_nn (x : Rat) : 0 ≤ x * x := sq_nonneg x
theorem two_le (x y : Rat) : 2 * rabs (x * y) ≤ x * x + y * y := by
  rw [rabs_mul]
  have h := sq_nonneg (rabs x - rabs y)
  have a := rabs_sq x
  have b := rabs_sq y
  grind
section
variable {A B C D m dh p s bg sm t1 t2 z1 g w ζ z : Rat}
  (hA : rabs A ≤ m) (hB : rabs B ≤ m) (hC : rabs C ≤ m) (hD : rabs D ≤ m)
  (hdh : rabs (dh - (A - D)) ≤ ulp * rabs (A - D)) (hp : p = dh / 2)
  (s0 : 0 < s) (hps : rabs p ≤ s) (hbm : bg * sm = B * C)
  (hz1 : rabs (s * z1 - (p * p + B * C)) ≤ 33 / 10 * (ulp * (p * p + rabs (B * C)))) (z0 : 0 < z1)
  (hg : rabs (g * g - s * z1) ≤ 62 / 10 * (ulp * (s * z1))) (g0 : 0 ≤ g) (hw : w * w = g * g) (hwp : 0 ≤ w * p)
  (hζ : ζ = p + w) (hz : rabs (z - ζ) ≤ ulp * rabs ζ)
include hA hB hC hD hdh hp s0 hps hbm hz1 z0 hg g0 hw hwp hζ hz
/-- The eigenvalue's rest. -/
theorem rho_bound : rabs (z * z - (A - D) * z - B * C) ≤ 29 * (ulp * (m * rabs z)) ∧ rabs z ≤ 26 / 10 * m ∧ 0 < rabs z ∧ rabs (B * C) ≤ 205 / 100 * (m * rabs z) := by
  have m0 : 0 ≤ m := Rat.le_trans (rabs_nonneg _) hA
  have um := uu m0
  have aD : rabs (A - D) ≤ 2 * m := by
    have := rabs_add A (-D)
    rw [rabs_neg, show A + -D = A - D by grind] at this
    grind
  have uaD := uul aD
  have pb : rabs p ≤ 1001 / 1000 * m := by
    have t := rabs_add (dh - (A - D)) (A - D)
    rw [show dh - (A - D) + (A - D) = dh by grind] at t
    have e : rabs p = rabs dh / 2 := by rw [hp]; unfold rabs; split <;> split <;> grind
    rw [e]
    grind
  have pp := sq_nn p
  have bc0 := rabs_nonneg (B * C)
  have bcm : rabs (B * C) ≤ m * m := mulB hB hC
  have Q0 : 0 ≤ p * p + rabs (B * C) := by grind
  have uQ := uu Q0
  have sz : 0 < s * z1 := Rat.mul_pos s0 z0
  have usz := uu (Rat.le_of_lt sz)
  have zl := absle.mp hz1
  have gl := absle.mp hg
  have bs := rabs_self (B * C)
  -- the square of the root
  have szQ : s * z1 ≤ 1001 / 1000 * (p * p + rabs (B * C)) := by grind
  have uszQ := uul szQ
  have E1 : rabs (w * w - (p * p + B * C)) ≤ 96 / 10 * (ulp * (p * p + rabs (B * C))) := by
    rw [absle, hw]
    have e : ulp * (1001 / 1000 * (p * p + rabs (B * C))) = 1001 / 1000 * (ulp * (p * p + rabs (B * C))) := by grind
    rw [e] at uszQ
    grind
  have El := absle.mp E1
  have ppm : p * p ≤ 1003 / 1000 * (m * m) := by
    have := mulB pb pb
    rw [rabs_of_nonneg pp] at this
    grind
  have wm : w * w ≤ 202 / 100 * (m * m) := by
    have mm := sq_nn m
    grind
  have wb : rabs w ≤ 15 / 10 * m := by
    refine Rat.not_lt.mp fun h => ?_
    have h2 := Rat.mul_lt_mul_of_pos_right h (show 0 < rabs w by grind)
    have h3 := Rat.mul_le_mul_of_nonneg_left (Rat.le_of_lt h) (show 0 ≤ 15 / 10 * m by grind)
    have := rabs_sq w
    grind
  -- the root beside p
  have ζa : rabs ζ = rabs p + rabs w := by
    rw [hζ]
    unfold rabs
    by_cases c1 : p < 0
    · by_cases c2 : w < 0
      · rw [if_pos (by grind), if_pos c1, if_pos c2]; grind
      · have : w = 0 := by
          refine Rat.le_antisymm (Rat.not_lt.mp fun h => ?_) (Rat.not_lt.mp c2)
          have := Rat.mul_lt_mul_of_pos_left c1 h
          grind
        rw [this, if_pos (by grind), if_pos c1, if_neg (by decide)]; grind
    · by_cases c2 : w < 0
      · have : p = 0 := by
          refine Rat.le_antisymm (Rat.not_lt.mp fun h => ?_) (Rat.not_lt.mp c1)
          have := Rat.mul_lt_mul_of_pos_right c2 h
          grind
        rw [this, if_pos (by grind), if_neg (by decide), if_pos c2]; grind
      · rw [if_neg (by grind), if_neg c1, if_neg c2]
  have p0 := rabs_nonneg p
  have w0 := rabs_nonneg w
  have ζ0 := rabs_nonneg ζ
  have mζ : 0 ≤ m * rabs ζ := Rat.mul_nonneg m0 ζ0
  have ppζ : p * p ≤ 1001 / 1000 * (m * rabs ζ) := by
    have a := Rat.mul_le_mul_of_nonneg_right pb p0
    have b := Rat.mul_le_mul_of_nonneg_left (show rabs p ≤ rabs ζ by grind) m0
    rw [rabs_sq] at a
    grind
  have wwζ : w * w ≤ 15 / 10 * (m * rabs ζ) := by
    have a := Rat.mul_le_mul_of_nonneg_right wb w0
    have b := Rat.mul_le_mul_of_nonneg_left (show rabs w ≤ rabs ζ by grind) m0
    rw [rabs_sq] at a
    grind
  have Qζ : p * p + rabs (B * C) ≤ 202 / 100 * (m * rabs ζ) := by
    by_cases c : B * C < 0
    · have e : rabs (B * C) = -(B * C) := by unfold rabs; rw [if_pos c]
      grind
    · have e : rabs (B * C) = B * C := by unfold rabs; rw [if_neg c]
      grind
  have uQζ := uul Qζ
  have uζ := uu ζ0
  have umζ := uu mζ
  -- z beside the root
  have zζ : rabs ζ ≤ 10001 / 10000 * rabs z := by
    have t := rabs_add (-(z - ζ)) z
    rw [rabs_neg, show -(z - ζ) + z = ζ by grind] at t
    grind
  have zζ2 : rabs z ≤ 10001 / 10000 * rabs ζ := by
    have t := rabs_add (z - ζ) ζ
    rw [show z - ζ + ζ = z by grind] at t
    grind
  have ζm : rabs ζ ≤ 2502 / 1000 * m := by grind
  have ζp : 0 < rabs ζ := by
    refine Rat.not_le.mp fun h => ?_
    have hp0 : rabs p = 0 := by grind
    have hw0 : rabs w = 0 := by grind
    have a := rabs_sq w
    rw [hw0] at a
    have : s * z1 = 0 := by grind
    grind
  have mz := Rat.mul_le_mul_of_nonneg_left zζ m0
  have umz := uul mz
  refine ⟨?_, by grind, by grind, by grind⟩
  have d1 : rabs ((z - ζ) * (2 * ζ + (z - ζ))) ≤ ulp * rabs ζ * (2001 / 1000 * rabs ζ) := mulB hz (by
    have t := rabs_add (2 * ζ) (z - ζ)
    have e : rabs (2 * ζ) = 2 * rabs ζ := by rw [rabs_mul]; rfl
    grind)
  have d2 : rabs ((A - D - 2 * p) * z) ≤ ulp * (2 * m) * rabs z := mulB (by
    have e : A - D - 2 * p = -(dh - (A - D)) := by rw [hp]; grind
    rw [e, rabs_neg]
    exact Rat.le_trans hdh uaD) Rat.le_refl
  have d3 : rabs (2 * p * (z - ζ)) ≤ 2 * (1001 / 1000 * m) * (ulp * rabs ζ) := mulB (by
    have e : rabs (2 * p) = 2 * rabs p := by rw [rabs_mul]; rfl
    rw [e]; grind) hz
  have e : z * z - (A - D) * z - B * C = (w * w - (p * p + B * C)) + (z - ζ) * (2 * ζ + (z - ζ)) + (-((A - D - 2 * p) * z) + -(2 * p * (z - ζ))) := by
    rw [hζ]; grind
  rw [e]
  have t1 := rabs_add ((w * w - (p * p + B * C)) + (z - ζ) * (2 * ζ + (z - ζ))) (-((A - D - 2 * p) * z) + -(2 * p * (z - ζ)))
  have t2 := rabs_add (w * w - (p * p + B * C)) ((z - ζ) * (2 * ζ + (z - ζ)))
  have t3 := rabs_add (-((A - D - 2 * p) * z)) (-(2 * p * (z - ζ)))
  rw [rabs_neg, rabs_neg] at t3
  -- the four parts, all by m and z
  have f1 : ulp * rabs ζ * (2001 / 1000 * rabs ζ) ≤ 501 / 100 * (ulp * (m * rabs ζ)) := by
    have a := Rat.mul_le_mul_of_nonneg_right ζm ζ0
    have b := uul a
    grind
  have f2 : ulp * (202 / 100 * (m * rabs ζ)) = 202 / 100 * (ulp * (m * rabs ζ)) := by grind
  rw [f2] at uQζ
  have f3 : ulp * (2 * m) * rabs z = 2 * (ulp * (m * rabs z)) := by grind
  have f4 : 2 * (1001 / 1000 * m) * (ulp * rabs ζ) = 2002 / 1000 * (ulp * (m * rabs ζ)) := by grind
  have f5 : ulp * (m * (10001 / 10000 * rabs z)) = 10001 / 10000 * (ulp * (m * rabs z)) := by grind
  rw [f3] at d2
  rw [f4] at d3
  rw [f5] at umz
  have n := (uu (Rat.mul_nonneg m0 (rabs_nonneg z))).1
  grind
end
section
variable {A B C D m ρ z h c n sA sB sD y : Rat}
  (hA : rabs A ≤ m) (hB : rabs B ≤ m) (hC : rabs C ≤ m) (hD : rabs D ≤ m) (hρe : ρ = z * z - (A - D) * z - B * C) (hρ : rabs ρ ≤ 29 * (ulp * (m * rabs z))) (hzm : rabs z ≤ 26 / 10 * m) (hz0 : 0 < rabs z)
  (hy : y * z = B * C) (hym : rabs y ≤ 205 / 100 * m)
  (h1 : (z * z + C * C) * ((1 - 6 * ulp) * (1 - 6 * ulp)) ≤ h * h) (h2 : h * h ≤ (z * z + C * C) * ((1 + 6 * ulp) * (1 + 6 * ulp)))
  (hc : rabs (c * h - z) ≤ ulp * rabs z) (hn : rabs (n * h - C) ≤ ulp * rabs C)
  (hsA : rabs (sA - (D + z)) ≤ ulp * rabs (D + z)) (hsB : rabs (sB - (B - C)) ≤ ulp * rabs (B - C)) (hsD : rabs (sD - (D - y)) ≤ 75 / 10 * (ulp * m))
include hA hB hC hD hρe hρ hzm hz0 hy hym h1 h2 hc hn hsA hsB hsD
theorem real_near : rabs (c * c + n * n - 1) ≤ 16 * ulp ∧
    rabs (c * c * A + c * n * (B + C) + n * n * D - sA) ≤ 100 * (ulp * m) ∧ rabs (c * c * B - c * n * (A - D) - n * n * C - sB) ≤ 100 * (ulp * m) ∧
    rabs (c * c * C - c * n * (A - D) - n * n * B) ≤ 100 * (ulp * m) ∧ rabs (c * c * D - c * n * (B + C) + n * n * A - sD) ≤ 100 * (ulp * m) := by
  have m0 : 0 ≤ m := Rat.le_trans (rabs_nonneg _) hA
  have zz := sq_nn z
  have CC := sq_nn C
  have zp : 0 < z * z := by
    rw [← rabs_sq]; exact Rat.mul_pos hz0 hz0
  generalize hH : z * z + C * C = H at h1 h2
  have H0 : 0 < H := by grind
  have uH := uu (Rat.le_of_lt H0)
  have hh0 : rabs (h * h - H) ≤ 121 / 10 * (ulp * H) := by
    rw [absle]
    have k := uu uH.1
    have a1 : H * ((1 - 6 * ulp) * (1 - 6 * ulp)) = H - 12 * (ulp * H) + 36 * (ulp * (ulp * H)) := by grind
    have a2 : H * ((1 + 6 * ulp) * (1 + 6 * ulp)) = H + 12 * (ulp * H) + 36 * (ulp * (ulp * H)) := by grind
    rw [a1] at h1
    rw [a2] at h2
    grind
  have hl := absle.mp hh0
  have hhp : 0 < h * h := by grind
  have Hh : H ≤ 1001 / 1000 * (h * h) := by grind
  -- the products
  have c2 := prod_err hc hc
  have n2 := prod_err hn hn
  have cn := prod_err hc hn
  rw [rabs_of_nonneg zz] at c2
  rw [rabs_of_nonneg CC] at n2
  have zc := two_le z C
  rw [hH] at zc
  have uzc := uul zc
  have ezc : ulp * (2 * rabs (z * C)) = 2 * (ulp * rabs (z * C)) := by grind
  rw [ezc] at uzc
  obtain ⟨E1, hE1⟩ : ∃ E1, E1 = c * h * (c * h) - z * z := ⟨_, rfl⟩
  obtain ⟨E2, hE2⟩ : ∃ E2, E2 = n * h * (n * h) - C * C := ⟨_, rfl⟩
  obtain ⟨E3, hE3⟩ : ∃ E3, E3 = c * h * (n * h) - z * C := ⟨_, rfl⟩
  rw [← hE1] at c2
  rw [← hE2] at n2
  rw [← hE3] at cn
  have uz0 := (uu zz).1
  have uC0 := (uu CC).1
  -- an entry, from what the products err by
  have pert : ∀ X Y W : Rat, rabs X ≤ m → rabs Y ≤ 2 * m → rabs W ≤ m → rabs (E1 * X + E3 * Y + E2 * W) ≤ 43 / 10 * (ulp * (H * m)) := by
    intro X Y W hX hY hW
    have b1 := mulB c2 hX
    have b2 := mulB cn hY
    have b3 := mulB n2 hW
    have t1 := rabs_add (E1 * X + E3 * Y) (E2 * W)
    have t2 := rabs_add (E1 * X) (E3 * Y)
    have q1 := Rat.mul_le_mul_of_nonneg_right uzc m0
    have q2 : ulp * (z * z) * m + ulp * (C * C) * m = ulp * (H * m) := by rw [← hH]; grind
    have q3 : ulp * H * m = ulp * (H * m) := by grind
    have q4 := (uu (Rat.mul_nonneg (Rat.le_of_lt H0) m0)).1
    grind
  have sumB : rabs (B + C) ≤ 2 * m := by have := rabs_add B C; grind
  have difA : rabs (-(A - D)) ≤ 2 * m := by
    have := rabs_add A (-D)
    rw [rabs_neg, show A + -D = A - D by grind] at this
    rw [rabs_neg]; grind
  have difB : rabs (B - C) ≤ 2 * m := by
    have := rabs_add B (-C)
    rw [rabs_neg, show B + -C = B - C by grind] at this
    grind
  have sumD : rabs (D + z) ≤ 36 / 10 * m := by have := rabs_add D z; grind
  have difD : rabs (D - y) ≤ 305 / 100 * m := by
    have := rabs_add D (-y)
    rw [rabs_neg, show D + -y = D - y by grind] at this
    grind
  have Hm0 : 0 ≤ H * m := Rat.mul_nonneg (Rat.le_of_lt H0) m0
  have uHm := (uu Hm0).1
  -- the rest
  have zρ : rabs (z * ρ) ≤ 29 * (ulp * (H * m)) := by
    have a := mulB (show rabs z ≤ rabs z from Rat.le_refl) hρ
    have b : rabs z * (29 * (ulp * (m * rabs z))) = 29 * (ulp * ((z * z) * m)) := by rw [← rabs_sq]; grind
    rw [b] at a
    have d := uul (Rat.mul_le_mul_of_nonneg_right (show z * z ≤ H by grind) m0)
    grind
  have Cρ : rabs (C * ρ) ≤ 15 * (ulp * (H * m)) := by
    have a := mulB (show rabs C ≤ rabs C from Rat.le_refl) hρ
    have b : rabs C * (29 * (ulp * (m * rabs z))) = 29 * (ulp * (rabs (z * C) * m)) := by rw [rabs_mul]; grind
    rw [b] at a
    have d := Rat.mul_le_mul_of_nonneg_right uzc m0
    have e1 : ulp * H * m = ulp * (H * m) := by grind
    have e2 : 2 * (ulp * rabs (z * C)) * m = 2 * (ulp * (rabs (z * C) * m)) := by grind
    rw [e1, e2] at d
    grind
  have yρ : ∃ k, z * k = C * C * ρ ∧ rabs k ≤ 29 * (ulp * (H * m)) := by
    have zn : z ≠ 0 := fun e => by rw [e] at zp; grind
    refine ⟨C * C * ρ / z, by rw [Rat.mul_comm, Rat.div_mul_cancel zn], ?_⟩
    have a := mulB (show rabs (C * C) ≤ C * C by rw [rabs_of_nonneg CC]; exact Rat.le_refl) hρ
    have d := uul (Rat.mul_le_mul_of_nonneg_right (show C * C ≤ H by grind) m0)
    have e : rabs (C * C * ρ / z) * rabs z = rabs (C * C * ρ) := by rw [← rabs_mul, Rat.div_mul_cancel zn]
    refine Rat.not_lt.mp fun hlt => ?_
    have b := Rat.mul_lt_mul_of_pos_right hlt hz0
    rw [e] at b
    have d2 := Rat.mul_le_mul_of_nonneg_right d (Rat.le_of_lt hz0)
    have f1 : C * C * (29 * (ulp * (m * rabs z))) = 29 * (ulp * (C * C * m) * rabs z) := by grind
    rw [f1] at a
    grind
  obtain ⟨k, hk, kb⟩ := yρ
  -- from h's square to one
  have down : ∀ X : Rat, rabs (h * h * X) ≤ 99 * (ulp * (H * m)) → rabs X ≤ 100 * (ulp * m) := by
    intro X hX
    rw [rabs_mul, rabs_of_nonneg (Rat.le_of_lt hhp)] at hX
    refine Rat.not_lt.mp fun hlt => ?_
    have a := Rat.mul_lt_mul_of_pos_left hlt hhp
    have b := uul (Rat.mul_le_mul_of_nonneg_right Hh m0)
    have e1 : h * h * (100 * (ulp * m)) = 100 * (ulp * (h * h * m)) := by grind
    have e2 : ulp * (1001 / 1000 * (h * h) * m) = 1001 / 1000 * (ulp * (h * h * m)) := by grind
    rw [e1] at a
    rw [e2] at b
    have n := (uu (Rat.mul_nonneg (Rat.le_of_lt hhp) m0)).1
    grind
  have off : ∀ X : Rat, rabs X ≤ 36 / 10 * m → rabs ((H - h * h) * X) ≤ 436 / 10 * (ulp * (H * m)) := by
    intro X hX
    have a := mulB (show rabs (H - h * h) ≤ 121 / 10 * (ulp * H) by rw [← rabs_neg, show -(H - h * h) = h * h - H by grind]; exact hh0) hX
    have e : 121 / 10 * (ulp * H) * (36 / 10 * m) = 4356 / 100 * (ulp * (H * m)) := by grind
    rw [e] at a
    grind
  have out : ∀ s X kk : Rat, rabs (s - X) ≤ kk * (ulp * m) → 0 ≤ kk → rabs (h * h * (X - s)) ≤ 1001 / 1000 * kk * (ulp * (H * m)) := by
    intro s X kk hs k0
    have hh2 : rabs (h * h) ≤ 1001 / 1000 * H := by rw [rabs_of_nonneg (Rat.le_of_lt hhp)]; grind
    have a := mulB hh2 (show rabs (X - s) ≤ kk * (ulp * m) by rw [← rabs_neg, show -(X - s) = s - X by grind]; exact hs)
    have e : 1001 / 1000 * H * (kk * (ulp * m)) = 1001 / 1000 * kk * (ulp * (H * m)) := by grind
    rw [e] at a
    exact a
  have rel : ∀ s X M : Rat, rabs (s - X) ≤ ulp * rabs X → rabs X ≤ M * m → rabs (s - X) ≤ M * (ulp * m) := by
    intro s X M h1 h2
    have := uul h2
    have e : ulp * (M * m) = M * (ulp * m) := by grind
    rw [e] at this
    exact Rat.le_trans h1 this
  refine ⟨?_, down _ ?_, down _ ?_, down _ ?_, down _ ?_⟩
  · -- a turn
    have e : h * h * (c * c + n * n - 1) = E1 + E2 + (H - h * h) := by rw [hE1, hE2, ← hH]; grind
    have b : rabs (h * h * (c * c + n * n - 1)) ≤ 143 / 10 * (ulp * H) := by
      rw [e]
      have t1 := rabs_add (E1 + E2) (H - h * h)
      have t2 := rabs_add E1 E2
      have hd : rabs (H - h * h) ≤ 121 / 10 * (ulp * H) := by rw [← rabs_neg, show -(H - h * h) = h * h - H by grind]; exact hh0
      have q : ulp * (z * z) + ulp * (C * C) = ulp * H := by rw [← hH]; grind
      grind
    rw [rabs_mul, rabs_of_nonneg (Rat.le_of_lt hhp)] at b
    refine Rat.not_lt.mp fun hlt => ?_
    have a := Rat.mul_lt_mul_of_pos_left hlt hhp
    have b2 := uul Hh
    have e1 : h * h * (16 * ulp) = 16 * (ulp * (h * h)) := by grind
    have e2 : ulp * (1001 / 1000 * (h * h)) = 1001 / 1000 * (ulp * (h * h)) := by grind
    rw [e1] at a
    rw [e2] at b2
    have n := (uu (Rat.le_of_lt hhp)).1
    grind
  · have e : h * h * (c * c * A + c * n * (B + C) + n * n * D - sA) = (E1 * A + E3 * (B + C) + E2 * D) + -(z * ρ) + ((H - h * h) * (D + z) + h * h * (D + z - sA)) := by
      rw [hE1, hE2, hE3, ← hH, hρe]; grind
    rw [e]
    have a1 := pert A (B + C) D hA sumB hD
    have a3 := off (D + z) sumD
    have a4 := out sA (D + z) (36 / 10) (rel _ _ _ hsA sumD) (by grind)
    have t1 := rabs_add ((E1 * A + E3 * (B + C) + E2 * D) + -(z * ρ)) ((H - h * h) * (D + z) + h * h * (D + z - sA))
    have t2 := rabs_add (E1 * A + E3 * (B + C) + E2 * D) (-(z * ρ))
    have t3 := rabs_add ((H - h * h) * (D + z)) (h * h * (D + z - sA))
    rw [rabs_neg] at t2
    grind
  · have e : h * h * (c * c * B - c * n * (A - D) - n * n * C - sB) = (E1 * B + E3 * (-(A - D)) + E2 * (-C)) + C * ρ + ((H - h * h) * (B - C) + h * h * (B - C - sB)) := by
      rw [hE1, hE2, hE3, ← hH, hρe]; grind
    rw [e]
    have a1 := pert B (-(A - D)) (-C) hB difA (by rw [rabs_neg]; exact hC)
    have a3 := off (B - C) (by grind)
    have a4 := out sB (B - C) 2 (rel _ _ _ hsB difB) (by grind)
    have t1 := rabs_add ((E1 * B + E3 * (-(A - D)) + E2 * (-C)) + C * ρ) ((H - h * h) * (B - C) + h * h * (B - C - sB))
    have t2 := rabs_add (E1 * B + E3 * (-(A - D)) + E2 * (-C)) (C * ρ)
    have t3 := rabs_add ((H - h * h) * (B - C)) (h * h * (B - C - sB))
    grind
  · have e : h * h * (c * c * C - c * n * (A - D) - n * n * B) = (E1 * C + E3 * (-(A - D)) + E2 * (-B)) + C * ρ := by
      rw [hE1, hE2, hE3, hρe]; grind
    rw [e]
    have a1 := pert C (-(A - D)) (-B) hC difA (by rw [rabs_neg]; exact hB)
    have t2 := rabs_add (E1 * C + E3 * (-(A - D)) + E2 * (-B)) (C * ρ)
    grind
  · have e : h * h * (c * c * D - c * n * (B + C) + n * n * A - sD) = (E1 * D + E3 * (-(B + C)) + E2 * A) + -k + ((H - h * h) * (D - y) + h * h * (D - y - sD)) := by
      have zn : z ≠ 0 := fun e => by rw [e] at zp; grind
      have key : z * (z * z * D - z * C * (B + C) + C * C * A) = z * (H * (D - y) - k) := by
        have : z * (H * (D - y) - k) = H * (z * D - y * z) - z * k := by grind
        rw [this, hk, hy, hρe, ← hH]; grind
      have key2 : z * z * D - z * C * (B + C) + C * C * A = H * (D - y) - k := by
        have a := congrArg (fun t => t / z) key
        rw [Rat.mul_comm z, Rat.mul_comm z (H * (D - y) - k), Rat.mul_div_cancel zn, Rat.mul_div_cancel zn] at a
        exact a
      have : h * h * (c * c * D - c * n * (B + C) + n * n * A - sD) = (E1 * D + E3 * (-(B + C)) + E2 * A) + (z * z * D - z * C * (B + C) + C * C * A) - h * h * sD := by
        rw [hE1, hE2, hE3]; grind
      rw [this, key2]; grind
    rw [e]
    have a1 := pert D (-(B + C)) A hD (by rw [rabs_neg]; exact sumB) hA
    have a3 := off (D - y) (by grind)
    have a4 := out sD (D - y) (75 / 10) (by grind) (by grind)
    have t1 := rabs_add ((E1 * D + E3 * (-(B + C)) + E2 * A) + -k) ((H - h * h) * (D - y) + h * h * (D - y - sD))
    have t2 := rabs_add (E1 * D + E3 * (-(B + C)) + E2 * A) (-k)
    have t3 := rabs_add ((H - h * h) * (D - y)) (h * h * (D - y - sD))
    rw [rabs_neg] at t2
    grind
end

theorem ule1 {x k : Rat} (h : x ≤ k) (k0 : 0 ≤ k) : ulp * x ≤ k * ulp := by
  have := uul h
  grind
theorem le_of_sq {x b : Rat} (b0 : 0 ≤ b) (h : x * x ≤ b * b) : rabs x ≤ b := by
  refine Rat.not_lt.mp fun hlt => ?_
  have a := Rat.mul_lt_mul_of_pos_right hlt (show 0 < rabs x by grind)
  have c := Rat.mul_le_mul_of_nonneg_left (Rat.le_of_lt hlt) b0
  have := rabs_sq x
  grind
section
variable {A B C D m sg dh τ w1 w2 c tc n0 n e W Y : Rat}
  (hA : rabs A ≤ m) (hB : rabs B ≤ m) (hC : rabs C ≤ m) (hD : rabs D ≤ m)
  (hsg : rabs (sg - (B + C)) ≤ ulp * rabs (B + C)) (hdh : rabs (dh - (A - D)) ≤ ulp * rabs (A - D)) (τ0 : 0 < τ)
  (ht1 : (sg * sg + dh * dh) * ((1 - 6 * ulp) * (1 - 6 * ulp)) ≤ τ * τ) (ht2 : τ * τ ≤ (sg * sg + dh * dh) * ((1 + 6 * ulp) * (1 + 6 * ulp)))
  (hW : W * τ = rabs sg) (hY : Y * τ = dh) (hw1 : rabs (w1 - W) ≤ ulp * rabs W) (hw2 : rabs (w2 - (1 + w1)) ≤ ulp * rabs (1 + w1))
  (hc : rabs (c * c - w2 / 2) ≤ 21 / 10 * (ulp * rabs (w2 / 2))) (c0 : 0 < c)
  (htc : rabs (tc - τ * c) ≤ ulp * rabs (τ * c)) (hn0 : rabs (n0 * tc - dh / 2) ≤ ulp * rabs (dh / 2)) (he : e * sg = rabs sg) (hee : e * e = 1) (hn : n = -(e * n0))
include hA hB hC hD hsg hdh τ0 ht1 ht2 hW hY hw1 hw2 hc c0 htc hn0 he hee hn
theorem turn_err : rabs (c * c + n * n - 1) ≤ 17 * ulp ∧ rabs c ≤ 1001 / 1000 ∧ rabs n ≤ 1001 / 1000 ∧ rabs (c * n) ≤ 501 / 1000 ∧ rabs ((c * c - n * n) * (A - D) + 2 * (c * n) * (B + C)) ≤ 41 * (ulp * m) := by
  have u := u_small
  have m0 : 0 ≤ m := Rat.le_trans (rabs_nonneg _) hA
  have aD : rabs (A - D) ≤ 2 * m := by
    have := rabs_add A (-D)
    rw [rabs_neg, show A + -D = A - D by grind] at this
    grind
  have bC : rabs (B + C) ≤ 2 * m := by have := rabs_add B C; grind
  -- the squares of W and Y
  have tt : 0 < τ * τ := Rat.mul_pos τ0 τ0
  have WY : W * W + Y * Y - 1 ≤ 122 / 10 * ulp ∧ -(122 / 10 * ulp) ≤ W * W + Y * Y - 1 := by
    have e1 : (W * W + Y * Y) * (τ * τ) = sg * sg + dh * dh := by
      have : (W * W + Y * Y) * (τ * τ) = (W * τ) * (W * τ) + (Y * τ) * (Y * τ) := by grind
      rw [this, hW, hY, rabs_sq]
    rw [← e1] at ht1 ht2
    have q1 : (1 - 6 * ulp) * (1 - 6 * ulp) = 1 - 12 * ulp + 36 * (ulp * ulp) := by grind
    have q2 : (1 + 6 * ulp) * (1 + 6 * ulp) = 1 + 12 * ulp + 36 * (ulp * ulp) := by grind
    have k1 : (W * W + Y * Y) * ((1 - 6 * ulp) * (1 - 6 * ulp)) ≤ 1 := by
      refine Rat.not_lt.mp fun h => ?_
      have := Rat.mul_lt_mul_of_pos_right h tt
      grind
    have k2 : 1 ≤ (W * W + Y * Y) * ((1 + 6 * ulp) * (1 + 6 * ulp)) := by
      refine Rat.not_lt.mp fun h => ?_
      have := Rat.mul_lt_mul_of_pos_right h tt
      grind
    have S0 : 0 ≤ W * W + Y * Y := by have := sq_nn W; have := sq_nn Y; grind
    generalize W * W + Y * Y = S at k1 k2 S0
    have d1 : (1 : Rat) ≤ (1 + 122 / 10 * ulp) * ((1 - 6 * ulp) * (1 - 6 * ulp)) := by decide +kernel
    have d2 : (1 - 122 / 10 * ulp) * ((1 + 6 * ulp) * (1 + 6 * ulp)) ≤ (1 : Rat) := by decide +kernel
    constructor
    · refine Rat.not_lt.mp fun h => ?_
      have p : 0 < (1 - 6 * ulp) * (1 - 6 * ulp) := by decide +kernel
      have := Rat.mul_lt_mul_of_pos_right (show 1 + 122 / 10 * ulp < S by grind) p
      grind
    · refine Rat.not_lt.mp fun h => ?_
      have p : 0 < (1 + 6 * ulp) * (1 + 6 * ulp) := by decide +kernel
      have := Rat.mul_lt_mul_of_pos_right (show S < 1 - 122 / 10 * ulp by grind) p
      grind
  have W0 : 0 ≤ W := by
    refine Rat.not_lt.mp fun h => ?_
    have := Rat.mul_lt_mul_of_pos_right h τ0
    have := rabs_nonneg sg
    grind
  have aW : rabs W = W := rabs_of_nonneg W0
  have W1 : W ≤ 10001 / 10000 := by
    have := le_of_sq (x := W) (b := 10001 / 10000) (by grind) (by have := sq_nn Y; grind)
    grind
  have Y1 : rabs Y ≤ 10001 / 10000 := le_of_sq (by grind) (by have := sq_nn W; grind)
  -- c's square
  rw [aW] at hw1
  have uW := ule1 W1 (by grind)
  have w1l := absle.mp hw1
  have a2 : rabs (1 + w1) ≤ 201 / 100 := by rw [absle]; grind
  have ua2 := ule1 a2 (by grind)
  have e2 : rabs (1 + w1) = 1 + w1 := rabs_of_nonneg (by grind)
  have w2l := absle.mp hw2
  have a3 : rabs (w2 / 2) = w2 / 2 := rabs_of_nonneg (by grind)
  rw [a3] at hc
  have uw2 : ulp * (w2 / 2) ≤ 101 / 100 * ulp := ule1 (by grind) (by grind)
  have cl := absle.mp hc
  have cc : rabs (c * c - (1 + W) / 2) ≤ 37 / 10 * ulp := by
    rw [absle]
    rw [e2] at ua2
    rw [e2] at w2l
    have uw1 : ulp * (1 + w1) ≤ ulp * (1 + W) + ulp * (1 / 1000) := by
      have := uul (show 1 + w1 ≤ 1 + W + 1 / 1000 by grind)
      grind
    have uw1' : ulp * (1 + W) = ulp + ulp * W := by grind
    have uw22 : ulp * (w2 / 2) ≤ 1001 / 1000 * ulp := by
      have := ule1 (x := w2 / 2) (k := 10005 / 10000) (by grind) (by grind)
      grind
    grind
  have ccl := absle.mp cc
  have cb : rabs c ≤ 1001 / 1000 := le_of_sq (by grind) (by grind)
  -- the sine
  have tc0 : 0 < τ * c := Rat.mul_pos τ0 c0
  have atc : rabs (τ * c) = τ * c := rabs_of_nonneg (Rat.le_of_lt tc0)
  have sn1 : rabs (n0 * (τ * c) - dh / 2) ≤ 201 / 100 * (ulp * rabs (dh / 2)) := by
    have a := mulB (show rabs n0 ≤ rabs n0 from Rat.le_refl) htc
    have e3 : rabs n0 * (ulp * rabs (τ * c)) = ulp * rabs (n0 * (τ * c)) := by rw [rabs_mul n0 (τ * c)]; grind
    rw [e3] at a
    have t := rabs_add (n0 * tc - dh / 2) (-(n0 * (tc - τ * c)))
    rw [rabs_neg, show n0 * tc - dh / 2 + -(n0 * (tc - τ * c)) = n0 * (τ * c) - dh / 2 by grind] at t
    have t2 := rabs_add (n0 * (τ * c) - dh / 2) (dh / 2)
    rw [show n0 * (τ * c) - dh / 2 + dh / 2 = n0 * (τ * c) by grind] at t2
    have ut2 := uul t2
    have k := (uu (rabs_nonneg (n0 * (τ * c) - dh / 2)))
    have k2 := uu (rabs_nonneg (dh / 2))
    have e4 : ulp * (rabs (n0 * (τ * c) - dh / 2) + rabs (dh / 2)) = ulp * rabs (n0 * (τ * c) - dh / 2) + ulp * rabs (dh / 2) := by grind
    rw [e4] at ut2
    grind
  have sn2 : rabs (n0 * c - Y / 2) ≤ 101 / 100 * (ulp * rabs Y) := by
    have e5 : n0 * (τ * c) - dh / 2 = (n0 * c - Y / 2) * τ := by rw [← hY]; grind
    have e6 : rabs (dh / 2) = rabs Y / 2 * τ := by
      have h := rabs_mul Y τ
      rw [rabs_of_nonneg (Rat.le_of_lt τ0), hY] at h
      have h2 : rabs (dh / 2) = rabs dh / 2 := by unfold rabs; split <;> split <;> grind
      rw [h2, h]; grind
    rw [e5, e6, rabs_mul, rabs_of_nonneg (Rat.le_of_lt τ0)] at sn1
    refine Rat.not_lt.mp fun hlt => ?_
    have a := Rat.mul_lt_mul_of_pos_right hlt τ0
    have k := Rat.mul_nonneg (uu (rabs_nonneg Y)).1 (Rat.le_of_lt τ0)
    grind
  have uY := ule1 Y1 (by grind)
  have nY : rabs (n0 * c - Y / 2) ≤ 102 / 100 * ulp := by grind
  have nYl := absle.mp nY
  have ncb : rabs (n0 * c) ≤ 501 / 1000 := by
    have t := rabs_add (n0 * c - Y / 2) (Y / 2)
    rw [show n0 * c - Y / 2 + Y / 2 = n0 * c by grind] at t
    have h2 : rabs (Y / 2) = rabs Y / 2 := by unfold rabs; split <;> split <;> grind
    grind
  -- its square, times c's
  have sq1 : rabs (n0 * c * (n0 * c) - Y / 2 * (Y / 2)) ≤ 12 / 10 * ulp := by
    have e7 : n0 * c * (n0 * c) - Y / 2 * (Y / 2) = (n0 * c - Y / 2) * (n0 * c + Y / 2) := by grind
    have b : rabs (n0 * c + Y / 2) ≤ 1002 / 1000 := by
      have t := rabs_add (n0 * c) (Y / 2)
      have h2 : rabs (Y / 2) = rabs Y / 2 := by unfold rabs; split <;> split <;> grind
      grind
    rw [e7]
    have := mulB nY b
    grind
  have sq1l := absle.mp sq1
  have nn : rabs (n0 * n0 - (1 - W) / 2) ≤ 125 / 10 * ulp := by
    have hW2 : rabs ((1 - W) / 2) ≤ 501 / 1000 := by rw [absle]; grind
    have b := mulB hW2 cc
    have e8 : (n0 * n0 - (1 - W) / 2) * (c * c) = (n0 * c * (n0 * c) - Y / 2 * (Y / 2)) + (W * W + Y * Y - 1) / 4 - (1 - W) / 2 * (c * c - (1 + W) / 2) := by grind
    have bl := absle.mp b
    have c3 : rabs ((n0 * n0 - (1 - W) / 2) * (c * c)) ≤ 62 / 10 * ulp := by rw [e8, absle]; grind
    have ccp : 4999 / 10000 ≤ c * c := by grind
    rw [rabs_mul, rabs_of_nonneg (sq_nn c)] at c3
    refine Rat.not_lt.mp fun hlt => ?_
    have a := Rat.mul_lt_mul_of_pos_right hlt (show 0 < c * c by grind)
    have d := Rat.mul_le_mul_of_nonneg_left ccp (show 0 ≤ 125 / 10 * ulp by grind)
    grind
  have nnl := absle.mp nn
  have en : n * n = n0 * n0 := by rw [hn]; have : -(e * n0) * -(e * n0) = e * e * (n0 * n0) := by grind
                                  rw [this, hee]; grind
  have ecn : c * n = -(e * (n0 * c)) := by rw [hn]; grind
  have re : rabs e = 1 := by
    have h := rabs_sq e
    rw [hee] at h
    have h0 := rabs_nonneg e
    have h1 : rabs e ≤ 1 := by
      refine Rat.not_lt.mp fun hlt => ?_
      have := Rat.mul_lt_mul_of_pos_right hlt (show 0 < rabs e by grind)
      grind
    refine Rat.le_antisymm h1 (Rat.not_lt.mp fun hlt => ?_)
    by_cases z : rabs e = 0
    · rw [z] at h; grind
    · have := Rat.mul_lt_mul_of_pos_right hlt (show 0 < rabs e by grind)
      grind
  refine ⟨?_, cb, le_of_sq (by grind) (by rw [en]; grind), ?_, ?_⟩
  · rw [en, absle]; grind
  · rw [ecn, rabs_neg, rabs_mul, re]; grind
  · -- the diagonal is alike
    have k1 : rabs (W * (A - D - dh)) ≤ 10001 / 10000 * (ulp * (2 * m)) := mulB (by rw [aW]; exact W1) (by
      rw [← rabs_neg, show -(A - D - dh) = dh - (A - D) by grind]
      exact Rat.le_trans hdh (uul aD))
    have k2 : rabs (e * Y * (B + C - sg)) ≤ 10001 / 10000 * (ulp * (2 * m)) := mulB (by rw [rabs_mul, re]; grind) (by
      rw [← rabs_neg, show -(B + C - sg) = sg - (B + C) by grind]
      exact Rat.le_trans hsg (uul bC))
    have k3 : rabs ((c * c - n * n - W) * (A - D)) ≤ 162 / 10 * ulp * (2 * m) := mulB (by rw [en, absle]; grind) aD
    have k4 : rabs (2 * (-(e * (n0 * c - Y / 2))) * (B + C)) ≤ 204 / 100 * ulp * (2 * m) := mulB (by
      have : rabs (2 * (-(e * (n0 * c - Y / 2)))) = 2 * rabs (n0 * c - Y / 2) := by
        rw [rabs_mul, rabs_neg, rabs_mul, re]; have : rabs (2 : Rat) = 2 := rfl
        rw [this]; grind
      rw [this]; grind) bC
    have key : W * dh - e * Y * sg = 0 := by
      have h : (W * dh - e * Y * sg) * τ = 0 := by
        have : (W * dh - e * Y * sg) * τ = (W * τ) * dh - (Y * τ) * (e * sg) := by grind
        rw [this, hW, hY, he]; grind
      rcases Rat.mul_eq_zero.mp h with h | h
      · exact h
      · exact absurd h (by grind)
    have e9 : (c * c - n * n) * (A - D) + 2 * (c * n) * (B + C) = (W * (A - D - dh) + -(e * Y * (B + C - sg))) + ((c * c - n * n - W) * (A - D) + 2 * (-(e * (n0 * c - Y / 2))) * (B + C)) := by
      rw [ecn]; grind
    rw [e9]
    have t1 := rabs_add (W * (A - D - dh) + -(e * Y * (B + C - sg))) ((c * c - n * n - W) * (A - D) + 2 * (-(e * (n0 * c - Y / 2))) * (B + C))
    have t2 := rabs_add (W * (A - D - dh)) (-(e * Y * (B + C - sg)))
    have t3 := rabs_add ((c * c - n * n - W) * (A - D)) (2 * (-(e * (n0 * c - Y / 2))) * (B + C))
    rw [rabs_neg] at t2
    have um := (uu m0).1
    have f1 : ulp * (2 * m) = 2 * (ulp * m) := by grind
    have f2 : 162 / 10 * ulp * (2 * m) = 324 / 10 * (ulp * m) := by grind
    have f3 : 204 / 100 * ulp * (2 * m) = 408 / 100 * (ulp * m) := by grind
    rw [f1] at k1 k2
    rw [f2] at k3
    rw [f3] at k4
    grind
end
/-- A number of products' sums, reckoned. -/
theorem of_err {c n x y X Y m K p q r : Rat} (m0 : 0 ≤ m) (hc : rabs c ≤ 1001 / 1000) (hn : rabs n ≤ 1001 / 1000) (hx : rabs x ≤ 21 / 10 * m) (hy : rabs y ≤ 21 / 10 * m) (hxX : rabs (x - X) ≤ K * (ulp * m)) (hyY : rabs (y - Y) ≤ K * (ulp * m)) (K0 : 0 ≤ K)
    (hp : rabs (p - c * x) ≤ ulp * rabs (c * x) + eta) (hq : rabs (q - n * y) ≤ ulp * rabs (n * y) + eta) (hr : rabs (r - (p + q)) ≤ ulp * rabs (p + q)) (em : eta ≤ ulp * m / 1000) : rabs (r - (c * X + n * Y)) ≤ (2002 / 1000 * K + 86 / 10) * (ulp * m) := by
  have a := mulB hc hx
  have b := mulB hn hy
  have ua := uul a
  have ub := uul b
  have um := uu m0
  have t0 := rabs_add p q
  have tp := rabs_add (p - c * x) (c * x)
  rw [show p - c * x + c * x = p by grind] at tp
  have tq := rabs_add (q - n * y) (n * y)
  rw [show q - n * y + n * y = q by grind] at tq
  have f1 : ulp * (1001 / 1000 * (21 / 10 * m)) = 1001 / 1000 * (21 / 10) * (ulp * m) := by grind
  rw [f1] at ua ub
  have pq : rabs (p + q) ≤ 421 / 100 * m := by grind
  have upq := uul pq
  have d1 := mulB hc hxX
  have d2 := mulB hn hyY
  have e : r - (c * X + n * Y) = (r - (p + q)) + (p - c * x) + ((q - n * y) + (c * (x - X) + n * (y - Y))) := by grind
  rw [e]
  have t1 := rabs_add ((r - (p + q)) + (p - c * x)) ((q - n * y) + (c * (x - X) + n * (y - Y)))
  have t2 := rabs_add (r - (p + q)) (p - c * x)
  have t3 := rabs_add (q - n * y) (c * (x - X) + n * (y - Y))
  have t4 := rabs_add (c * (x - X)) (n * (y - Y))
  have f2 : 1001 / 1000 * (K * (ulp * m)) = 1001 / 1000 * K * (ulp * m) := by grind
  rw [f2] at d1 d2
  have f3 : (2002 / 1000 * K + 86 / 10) * (ulp * m) = 2 * (1001 / 1000 * K * (ulp * m)) + 86 / 10 * (ulp * m) := by grind
  rw [f3]
  grind

/-- A block's numbers, turned, are near. -/
def Near (c n A B C D sA sB sC sD K : Rat) : Prop :=
  rabs (c * (c * A + n * C) + n * (c * B + n * D) - sA) ≤ K ∧ rabs (c * (c * B + n * D) - n * (c * A + n * C) - sB) ≤ K ∧
  rabs (c * (c * C - n * A) + n * (c * D - n * B) - sC) ≤ K ∧ rabs (c * (c * D - n * B) - n * (c * C - n * A) - sD) ≤ K

theorem mean_near {z0 z1 o0 o1 t s m : Rat} (m0 : 0 ≤ m) (h : rabs (z0 - z1) ≤ 41 * (ulp * m)) (h0 : rabs (o0 - z0) ≤ 18 * (ulp * m)) (h1 : rabs (o1 - z1) ≤ 18 * (ulp * m)) (hs : rabs (z0 + z1) ≤ 21 / 10 * m)
    (ht : rabs (t - (o0 + o1)) ≤ ulp * rabs (o0 + o1)) (hh : rabs (s - t / 2) ≤ ulp * m / 100) : rabs (z0 - s) ≤ 40 * (ulp * m) ∧ rabs (z1 - s) ≤ 40 * (ulp * m) ∧ rabs s ≤ 11 / 10 * m := by
  have um := uu m0
  have l := absle.mp h
  have l0 := absle.mp h0
  have l1 := absle.mp h1
  have ls := absle.mp hs
  have b : rabs (o0 + o1) ≤ 22 / 10 * m := by rw [absle]; grind
  have ub := uul b
  rw [show ulp * (22 / 10 * m) = 22 / 10 * (ulp * m) by grind] at ub
  have lt := absle.mp (Rat.le_trans ht ub)
  have lb := absle.mp b
  have lh := absle.mp hh
  generalize ulp * m = v at *
  refine ⟨?_, ?_, ?_⟩ <;> rw [absle] <;> grind
section
variable {P N K z00 z01 z10 z11 s β γ q sA sB sD b g e xy q0 T m v : Rat}
  (m0 : 0 ≤ m) (hv : v = ulp * m)
  (b0 : 0 < b) (g0 : 0 < g) (he : e * e = 1) (hβ : β = e * b) (hγ : γ = e * g) (hT : T = b + g) (hq : q = e * q0)
  (hP : rabs (P * T - b) ≤ 96 / 10 * (ulp * b)) (hN : rabs (N * T - g) ≤ 96 / 10 * (ulp * g)) (hK : rabs (K * T - xy) ≤ 75 / 10 * (ulp * xy)) (xy0 : 0 ≤ xy) (hxy : xy ≤ 501 / 1000 * T)
  (hq0 : rabs (q0 - xy) ≤ ulp * xy + v / 1000)
  (h00 : rabs (z00 - s) ≤ 40 * v) (h11 : rabs (z11 - s) ≤ 40 * v) (h01 : rabs (z01 - β) ≤ 18 * v) (h10 : rabs (z10 - γ) ≤ 18 * v) (hs : rabs s ≤ 11 / 10 * m) (hTm : T ≤ 41 / 10 * m)
  (hsA : rabs (sA - (s + q)) ≤ ulp * rabs (s + q)) (hsB : rabs (sB - (β - γ)) ≤ ulp * rabs (β - γ)) (hsD : rabs (sD - (s - q)) ≤ ulp * rabs (s - q))
include m0 hv b0 g0 he hβ hγ hT hq hP hN hK xy0 hxy hq0 h00 h11 h01 h10 hs hTm hsA hsB hsD
theorem second_near : rabs (P + N - 1) ≤ 96 / 10 * ulp ∧
    rabs (P * z00 + K * (z01 + z10) + N * z11 - sA) ≤ 105 * v ∧ rabs (P * z01 + K * (z11 - z00) - N * z10 - sB) ≤ 105 * v ∧
    rabs (P * z10 + K * (z11 - z00) - N * z01) ≤ 105 * v ∧ rabs (P * z11 - K * (z01 + z10) + N * z00 - sD) ≤ 105 * v := by
  have u := u_small
  have T0 : 0 < T := by grind
  have um := uu m0
  rw [← hv] at um
  have ub := uu (Rat.le_of_lt b0)
  have ug := uu (Rat.le_of_lt g0)
  have uxy := uu xy0
  have uT := uu (Rat.le_of_lt T0)
  have lP := absle.mp hP
  have lN := absle.mp hN
  have lK := absle.mp hK
  have eT : ulp * T = ulp * b + ulp * g := by rw [hT]; grind
  -- by T away
  have divT : ∀ {x k : Rat}, rabs (x * T) ≤ k * T → rabs x ≤ k := fun {x k} h => by
    rw [rabs_mul, rabs_of_nonneg (Rat.le_of_lt T0)] at h
    refine Rat.not_lt.mp fun hlt => ?_
    have := Rat.mul_lt_mul_of_pos_right hlt T0
    grind
  have PN1 : rabs (P + N - 1) ≤ 96 / 10 * ulp := by
    refine divT ?_
    rw [absle]
    have e1 : (P + N - 1) * T = (P * T - b) + (N * T - g) := by rw [hT]; grind
    have e2 : 96 / 10 * ulp * T = 96 / 10 * (ulp * b) + 96 / 10 * (ulp * g) := by rw [hT]; grind
    rw [e1, e2]
    grind
  have P1 : rabs P ≤ 1001 / 1000 := by
    refine divT ?_
    rw [absle]; grind
  have N1 : rabs N ≤ 1001 / 1000 := by
    refine divT ?_
    rw [absle]; grind
  have K1 : rabs K ≤ 502 / 1000 := by
    refine divT ?_
    rw [absle]; grind
  have Pp : 0 ≤ P := by
    refine Rat.not_lt.mp fun h => ?_
    have := Rat.mul_lt_mul_of_pos_right h T0
    grind
  have Np : 0 ≤ N := by
    refine Rat.not_lt.mp fun h => ?_
    have := Rat.mul_lt_mul_of_pos_right h T0
    grind
  have PN : P + N ≤ 1001 / 1000 := by have := absle.mp PN1; grind
  have e1 : rabs e = 1 := by
    have : e = 1 ∨ e = -1 := by
      have h : (e - 1) * (e + 1) = 0 := by grind
      rcases Rat.mul_eq_zero.mp h with h | h
      · left; grind
      · right; grind
    rcases this with h | h <;> rw [h] <;> decide
  -- the diagonal
  have d1 := mulB (Rat.le_refl (a := rabs P)) h00
  have d2 := mulB (Rat.le_refl (a := rabs N)) h11
  have d1' := mulB (Rat.le_refl (a := rabs P)) h11
  have d2' := mulB (Rat.le_refl (a := rabs N)) h00
  rw [rabs_of_nonneg Pp] at d1 d1'
  rw [rabs_of_nonneg Np] at d2 d2'
  have v0 : 0 ≤ v := by rw [hv]; exact (uu m0).1
  have PNv := Rat.mul_le_mul_of_nonneg_right PN v0
  have w1 : rabs ((z01 - β) + (z10 - γ)) ≤ 36 * v := by
    have := rabs_add (z01 - β) (z10 - γ)
    grind
  have d3 := mulB K1 w1
  have d4 := mulB PN1 hs
  have eus : 96 / 10 * ulp * (11 / 10 * m) = 96 / 10 * (11 / 10) * v := by rw [hv]; grind
  rw [eus] at d4
  have kq : rabs (e * (K * T - q0)) ≤ 85 / 10 * (ulp * xy) + v / 1000 := by
    rw [rabs_mul, e1]
    have t := rabs_add (K * T - xy) (-(q0 - xy))
    rw [rabs_neg, show K * T - xy + -(q0 - xy) = K * T - q0 by grind] at t
    grind
  have uxm : ulp * xy ≤ 206 / 100 * v := by
    have h : xy ≤ 206 / 100 * m := by grind
    have := uul h
    rw [hv]; grind
  have kβ : K * (β + γ) = e * (K * T) := by rw [hβ, hγ, hT]; grind
  have q0m : rabs q0 ≤ 207 / 100 * m := by
    have := absle.mp hq0
    rw [absle]; grind
  have qm : rabs q ≤ 207 / 100 * m := by rw [hq, rabs_mul, e1]; grind
  have s1 : ulp * rabs (s + q) ≤ 32 / 10 * v := by
    have h := uul (Rat.le_trans (rabs_add s q) (show rabs s + rabs q ≤ 32 / 10 * m by grind))
    rw [hv]; grind
  have s2 : ulp * rabs (s - q) ≤ 32 / 10 * v := by
    have t := rabs_add s (-q)
    rw [rabs_neg, show s + -q = s - q by grind] at t
    have h := uul (Rat.le_trans t (show rabs s + rabs q ≤ 32 / 10 * m by grind))
    rw [hv]; grind
  have βγ : rabs (β - γ) ≤ T := by
    have : β - γ = e * (b - g) := by rw [hβ, hγ]; grind
    rw [this, rabs_mul, e1]
    have : rabs (b - g) ≤ T := by rw [absle, hT]; grind
    grind
  have s3 : ulp * rabs (β - γ) ≤ 41 / 10 * v := by
    have h := uul (Rat.le_trans βγ hTm)
    rw [hv]; grind
  -- beside it
  have f1 := mulB (Rat.le_refl (a := rabs P)) h01
  have f2 := mulB (Rat.le_refl (a := rabs N)) h10
  have f1' := mulB (Rat.le_refl (a := rabs P)) h10
  have f2' := mulB (Rat.le_refl (a := rabs N)) h01
  rw [rabs_of_nonneg Pp] at f1 f1'
  rw [rabs_of_nonneg Np] at f2 f2'
  have w2 : rabs (z11 - z00) ≤ 80 * v := by
    have t := rabs_add (z11 - s) (-(z00 - s))
    rw [rabs_neg, show z11 - s + -(z00 - s) = z11 - z00 by grind] at t
    grind
  have f3 := mulB K1 w2
  have bT : b ≤ T := by grind
  have gT : g ≤ T := by grind
  have uTm : ulp * T ≤ 41 / 10 * v := by
    have h := uul hTm
    rw [hv]; grind
  have g1 : rabs (P * β - N * γ - (β - γ)) ≤ 394 / 10 * v := by
    refine Rat.le_trans (divT (k := 96 / 10 * (ulp * T)) ?_) (by grind)
    have e2 : (P * β - N * γ - (β - γ)) * T = e * ((P * T - b) * b + -((N * T - g) * g)) := by rw [hβ, hγ, hT]; grind
    rw [e2, rabs_mul, e1]
    have t := rabs_add ((P * T - b) * b) (-((N * T - g) * g))
    rw [rabs_neg] at t
    have a1 := mulB hP (show rabs b ≤ T by rw [rabs_of_nonneg (Rat.le_of_lt b0)]; exact bT)
    have a2 := mulB hN (show rabs g ≤ T by rw [rabs_of_nonneg (Rat.le_of_lt g0)]; exact gT)
    have e3 : 96 / 10 * (ulp * T) * T = 96 / 10 * (ulp * b) * T + 96 / 10 * (ulp * g) * T := by rw [eT]; grind
    rw [e3]
    grind
  have g2 : rabs (P * γ - N * β) ≤ 394 / 10 * v := by
    refine Rat.le_trans (divT (k := 96 / 10 * (ulp * T)) ?_) (by grind)
    have e2 : (P * γ - N * β) * T = e * ((P * T - b) * g + -((N * T - g) * b)) := by rw [hβ, hγ, hT]; grind
    rw [e2, rabs_mul, e1]
    have t := rabs_add ((P * T - b) * g) (-((N * T - g) * b))
    rw [rabs_neg] at t
    have a1 := mulB hP (show rabs g ≤ T by rw [rabs_of_nonneg (Rat.le_of_lt g0)]; exact gT)
    have a2 := mulB hN (show rabs b ≤ T by rw [rabs_of_nonneg (Rat.le_of_lt b0)]; exact bT)
    have e3 : 96 / 10 * (ulp * T) * T = 96 / 10 * (ulp * b) * T + 96 / 10 * (ulp * g) * T := by rw [eT]; grind
    rw [e3]
    grind
  have q' : q = e * q0 := hq
  have kq' := absle.mp kq
  rw [show e * (K * T - q0) = K * (β + γ) - q by rw [kβ, hq]; grind] at kq'
  refine ⟨PN1, ?_, ?_, ?_, ?_⟩ <;> rw [absle]
  · have := absle.mp d1; have := absle.mp d2; have := absle.mp d3; have := absle.mp d4; have := absle.mp (Rat.le_trans hsA s1)
    grind
  · have := absle.mp f1; have := absle.mp f2; have := absle.mp f3; have := absle.mp g1; have := absle.mp (Rat.le_trans hsB s3)
    grind
  · have := absle.mp f1'; have := absle.mp f2'; have := absle.mp f3; have := absle.mp g2
    grind
  · have := absle.mp d1'; have := absle.mp d2'; have := absle.mp d3; have := absle.mp d4; have := absle.mp (Rat.le_trans hsD s2)
    grind
end

theorem near_one {F rr T k : Rat} (T0 : 0 < T) (h1 : T * ((1 - ulp) * ((1 - ulq) * (1 - ulq))) ≤ rr) (h2 : rr ≤ T * ((1 + ulp) * ((1 + ulq) * (1 + ulq)))) (h3 : F * rr ≤ T * ((1 + ulp) * (1 + ulp))) (h4 : T * ((1 - ulp) * (1 - ulp)) ≤ F * rr) (F0 : 0 ≤ F) :
    1 - 52 / 10 * ulp ≤ F ∧ F ≤ 1 + 52 / 10 * ulp := by
  constructor
  · refine Rat.not_lt.mp fun h => ?_
    have a := Rat.mul_le_mul_of_nonneg_left h2 F0
    have p : 0 < T * ((1 + ulp) * ((1 + ulq) * (1 + ulq))) := Rat.mul_pos T0 (by decide +kernel)
    have b := Rat.mul_lt_mul_of_pos_right h p
    have d : (1 - 52 / 10 * ulp) * ((1 + ulp) * ((1 + ulq) * (1 + ulq))) ≤ (1 - ulp) * (1 - ulp) := by decide +kernel
    have e := Rat.mul_le_mul_of_nonneg_left d (Rat.le_of_lt T0)
    grind
  · refine Rat.not_lt.mp fun h => ?_
    have a := Rat.mul_le_mul_of_nonneg_left h1 F0
    have p : 0 < T * ((1 - ulp) * ((1 - ulq) * (1 - ulq))) := Rat.mul_pos T0 (by decide +kernel)
    have b := Rat.mul_lt_mul_of_pos_right h p
    have d : (1 + ulp) * (1 + ulp) ≤ (1 + 52 / 10 * ulp) * ((1 - ulp) * ((1 - ulq) * (1 - ulq))) := by decide +kernel
    have e := Rat.mul_le_mul_of_nonneg_left d (Rat.le_of_lt T0)
    grind
theorem mul4 {x a y b z c : Rat} (x0 : 0 ≤ x) (h1 : x ≤ a) (y0 : 0 ≤ y) (h2 : y ≤ b) (z0 : 0 ≤ z) (h3 : z ≤ c) : x * y * z ≤ a * b * c := by
  have a0 := Rat.le_trans x0 h1
  have b0 := Rat.le_trans y0 h2
  have e1 := Rat.mul_le_mul_of_nonneg_right h1 y0
  have e2 := Rat.mul_le_mul_of_nonneg_left h2 a0
  have e3 := Rat.mul_le_mul_of_nonneg_right (Rat.le_trans e1 e2) z0
  have e4 := Rat.mul_le_mul_of_nonneg_left h3 (Rat.mul_nonneg a0 b0)
  exact Rat.le_trans e3 e4
section
variable {b g x y T t r f c n : Rat}
  (b0 : 0 < b) (g0 : 0 < g) (x0 : 0 < x) (y0 : 0 < y)
  (hx1 : b * ((1 - ulq) * (1 - ulq)) ≤ x * x) (hx2 : x * x ≤ b * ((1 + ulq) * (1 + ulq)))
  (hy1 : g * ((1 - ulq) * (1 - ulq)) ≤ y * y) (hy2 : y * y ≤ g * ((1 + ulq) * (1 + ulq)))
  (hT : T = b + g) (ht : rabs (t - T) ≤ ulp * T) (r0 : 0 < r) (hr1 : t * ((1 - ulq) * (1 - ulq)) ≤ r * r) (hr2 : r * r ≤ t * ((1 + ulq) * (1 + ulq)))
  (hf : rabs (f * r - 1) ≤ ulp) (hc : rabs (c - x * f) ≤ ulp * rabs (x * f)) (hn : rabs (n - y * f) ≤ ulp * rabs (y * f))
include b0 g0 x0 y0 hx1 hx2 hy1 hy2 hT ht r0 hr1 hr2 hf hc hn
theorem second_scal : 0 < c ∧ 0 < n ∧ rabs (c * c * T - b) ≤ 96 / 10 * (ulp * b) ∧ rabs (n * n * T - g) ≤ 96 / 10 * (ulp * g) ∧ rabs (c * n * T - x * y) ≤ 75 / 10 * (ulp * (x * y)) ∧ x * y ≤ 501 / 1000 * T := by
  have u := u_small
  have T0 : 0 < T := by grind
  have lf := absle.mp hf
  have f0 : 0 < f := by
    refine Rat.not_le.mp fun h => ?_
    have := Rat.mul_nonneg (show 0 ≤ -f by grind) (Rat.le_of_lt r0)
    grind
  have lt := absle.mp ht
  have q1 : (0 : Rat) ≤ (1 - ulq) * (1 - ulq) := by decide +kernel
  have q2 : (0 : Rat) ≤ (1 + ulq) * (1 + ulq) := by decide +kernel
  have F0 : 0 ≤ f * f * T := Rat.mul_nonneg (sq_nn f) (Rat.le_of_lt T0)
  have t1 : T * (1 - ulp) ≤ t := by grind
  have t2 : t ≤ T * (1 + ulp) := by grind
  have a1 := Rat.mul_le_mul_of_nonneg_right t1 q1
  have a2 := Rat.mul_le_mul_of_nonneg_right t2 q2
  have fr0 : 0 < f * r := Rat.mul_pos f0 r0
  have fr1 := sq_mono (Rat.le_of_lt fr0) (show f * r ≤ 1 + ulp by grind)
  have fr2 := sq_mono (show 0 ≤ 1 - ulp by grind) (show 1 - ulp ≤ f * r by grind)
  have fr1' := Rat.mul_le_mul_of_nonneg_left fr1 (Rat.le_of_lt T0)
  have fr2' := Rat.mul_le_mul_of_nonneg_left fr2 (Rat.le_of_lt T0)
  have eF : f * f * T * (r * r) = T * (f * r * (f * r)) := by grind
  obtain ⟨F1, F2⟩ := near_one (F := f * f * T) (rr := r * r) (k := 0) T0 (by grind) (by grind) (by rw [eF]; exact fr1') (by rw [eF]; exact fr2') F0
  have xf0 : 0 < x * f := Rat.mul_pos x0 f0
  have yf0 : 0 < y * f := Rat.mul_pos y0 f0
  rw [rabs_of_nonneg (Rat.le_of_lt xf0)] at hc
  rw [rabs_of_nonneg (Rat.le_of_lt yf0)] at hn
  have lc := absle.mp hc
  have ln := absle.mp hn
  have ux := uu (Rat.le_of_lt xf0)
  have uy := uu (Rat.le_of_lt yf0)
  have c1 : x * f * (1 - ulp) ≤ c := by grind
  have c2 : c ≤ x * f * (1 + ulp) := by grind
  have n1 : y * f * (1 - ulp) ≤ n := by grind
  have n2 : n ≤ y * f * (1 + ulp) := by grind
  have c0 : 0 < c := by grind
  have n0 : 0 < n := by grind
  have xl : 0 ≤ x * f * (1 - ulp) := Rat.mul_nonneg (Rat.le_of_lt xf0) (by grind)
  have yl : 0 ≤ y * f * (1 - ulp) := Rat.mul_nonneg (Rat.le_of_lt yf0) (by grind)
  have ub := uu (Rat.le_of_lt b0)
  have ug := uu (Rat.le_of_lt g0)
  have xy0 : 0 < x * y := Rat.mul_pos x0 y0
  -- one of the two squares
  have one : ∀ {x b c : Rat}, 0 < x → 0 < b → b * ((1 - ulq) * (1 - ulq)) ≤ x * x → x * x ≤ b * ((1 + ulq) * (1 + ulq)) → 0 ≤ x * f * (1 - ulp) → x * f * (1 - ulp) ≤ c → c ≤ x * f * (1 + ulp) → rabs (c * c * T - b) ≤ 96 / 10 * (ulp * b) := by
    intro x b c x0 b0 hx1 hx2 xl c1 c2
    have s1 := Rat.mul_le_mul_of_nonneg_right (sq_mono xl c1) (Rat.le_of_lt T0)
    have s2 := Rat.mul_le_mul_of_nonneg_right (sq_mono (Rat.le_trans xl c1) c2) (Rat.le_of_lt T0)
    have e1 : x * f * (1 - ulp) * (x * f * (1 - ulp)) * T = x * x * (f * f * T) * ((1 - ulp) * (1 - ulp)) := by grind
    have e2 : x * f * (1 + ulp) * (x * f * (1 + ulp)) * T = x * x * (f * f * T) * ((1 + ulp) * (1 + ulp)) := by grind
    rw [e1] at s1
    rw [e2] at s2
    have m1 := mul4 (Rat.mul_nonneg (Rat.le_of_lt b0) q1) hx1 (show 0 ≤ 1 - 52 / 10 * ulp by grind) F1 (show 0 ≤ (1 - ulp) * (1 - ulp) from sq_nn _) Rat.le_refl
    have m2 := mul4 (sq_nn x) hx2 F0 F2 (show 0 ≤ (1 + ulp) * (1 + ulp) from sq_nn _) Rat.le_refl
    have k1 : 1 - 96 / 10 * ulp ≤ (1 - ulq) * (1 - ulq) * (1 - 52 / 10 * ulp) * ((1 - ulp) * (1 - ulp)) := by decide +kernel
    have k2 : (1 + ulq) * (1 + ulq) * (1 + 52 / 10 * ulp) * ((1 + ulp) * (1 + ulp)) ≤ 1 + 96 / 10 * ulp := by decide +kernel
    have k1' := Rat.mul_le_mul_of_nonneg_left k1 (Rat.le_of_lt b0)
    have k2' := Rat.mul_le_mul_of_nonneg_left k2 (Rat.le_of_lt b0)
    rw [absle]
    generalize (1 - ulq) * (1 - ulq) = Q1 at *
    generalize (1 + ulq) * (1 + ulq) = Q2 at *
    generalize (1 - ulp) * (1 - ulp) = U1 at *
    generalize (1 + ulp) * (1 + ulp) = U2 at *
    have g1 : b * Q1 * (1 - 52 / 10 * ulp) * U1 = b * (Q1 * (1 - 52 / 10 * ulp) * U1) := by grind
    have g2 : b * Q2 * (1 + 52 / 10 * ulp) * U2 = b * (Q2 * (1 + 52 / 10 * ulp) * U2) := by grind
    rw [g1] at m1
    rw [g2] at m2
    have l1 := Rat.le_trans (Rat.le_trans k1' m1) s1
    have l2 := Rat.le_trans s2 (Rat.le_trans m2 k2')
    constructor <;> grind
  refine ⟨c0, n0, one x0 b0 hx1 hx2 xl c1 c2, one y0 g0 hy1 hy2 yl n1 n2, ?_, ?_⟩
  · have s1 : x * f * (1 - ulp) * (y * f * (1 - ulp)) ≤ c * n := Rat.le_trans (Rat.mul_le_mul_of_nonneg_right c1 yl) (Rat.mul_le_mul_of_nonneg_left n1 (Rat.le_of_lt c0))
    have s2 : c * n ≤ x * f * (1 + ulp) * (y * f * (1 + ulp)) := Rat.le_trans (Rat.mul_le_mul_of_nonneg_left n2 (Rat.le_of_lt c0)) (Rat.mul_le_mul_of_nonneg_right c2 (Rat.mul_nonneg (Rat.le_of_lt yf0) (by grind)))
    have s1 := Rat.mul_le_mul_of_nonneg_right s1 (Rat.le_of_lt T0)
    have s2 := Rat.mul_le_mul_of_nonneg_right s2 (Rat.le_of_lt T0)
    have e1 : x * f * (1 - ulp) * (y * f * (1 - ulp)) * T = x * y * (f * f * T) * ((1 - ulp) * (1 - ulp)) := by grind
    have e2 : x * f * (1 + ulp) * (y * f * (1 + ulp)) * T = x * y * (f * f * T) * ((1 + ulp) * (1 + ulp)) := by grind
    rw [e1] at s1
    rw [e2] at s2
    have m1 := mul4 (Rat.le_of_lt xy0) (Rat.le_refl (a := x * y)) (show 0 ≤ 1 - 52 / 10 * ulp by grind) F1 (show 0 ≤ (1 - ulp) * (1 - ulp) from sq_nn _) Rat.le_refl
    have m2 := mul4 (Rat.le_of_lt xy0) (Rat.le_refl (a := x * y)) F0 F2 (show 0 ≤ (1 + ulp) * (1 + ulp) from sq_nn _) Rat.le_refl
    have k1 : 1 - 75 / 10 * ulp ≤ (1 - 52 / 10 * ulp) * ((1 - ulp) * (1 - ulp)) := by decide +kernel
    have k2 : (1 + 52 / 10 * ulp) * ((1 + ulp) * (1 + ulp)) ≤ 1 + 75 / 10 * ulp := by decide +kernel
    have k1' := Rat.mul_le_mul_of_nonneg_left k1 (Rat.le_of_lt xy0)
    have k2' := Rat.mul_le_mul_of_nonneg_left k2 (Rat.le_of_lt xy0)
    rw [absle]
    generalize (1 - ulp) * (1 - ulp) = U1 at *
    generalize (1 + ulp) * (1 + ulp) = U2 at *
    generalize x * y = X at *
    have g1 : X * (1 - 52 / 10 * ulp) * U1 = X * ((1 - 52 / 10 * ulp) * U1) := by grind
    have g2 : X * (1 + 52 / 10 * ulp) * U2 = X * ((1 + 52 / 10 * ulp) * U2) := by grind
    rw [g1] at m1
    rw [g2] at m2
    have l1 := Rat.le_trans (Rat.le_trans k1' m1) s1
    have l2 := Rat.le_trans s2 (Rat.le_trans m2 k2')
    constructor <;> grind
  · have h := two_le x y
    rw [rabs_of_nonneg (Rat.le_of_lt xy0)] at h
    have k : (1 + ulq) * (1 + ulq) ≤ 1001 / 1000 := by decide +kernel
    have k1 := Rat.mul_le_mul_of_nonneg_left k (Rat.le_of_lt b0)
    have k2 := Rat.mul_le_mul_of_nonneg_left k (Rat.le_of_lt g0)
    grind
end
/-- Two turns are one. -/
theorem comp_near {c n c2 n2 A B C D sA sB sD k : Rat} {z00 z01 z10 z11 : Rat} (e00 : z00 = c * (c * A + n * C) + n * (c * B + n * D)) (e01 : z01 = c * (c * B + n * D) - n * (c * A + n * C)) (e10 : z10 = c * (c * C - n * A) + n * (c * D - n * B)) (e11 : z11 = c * (c * D - n * B) - n * (c * C - n * A))
    (h1 : rabs (c2 * c2 * z00 + c2 * n2 * (z01 + z10) + n2 * n2 * z11 - sA) ≤ k) (h2 : rabs (c2 * c2 * z01 + c2 * n2 * (z11 - z00) - n2 * n2 * z10 - sB) ≤ k)
    (h3 : rabs (c2 * c2 * z10 + c2 * n2 * (z11 - z00) - n2 * n2 * z01) ≤ k) (h4 : rabs (c2 * c2 * z11 - c2 * n2 * (z01 + z10) + n2 * n2 * z00 - sD) ≤ k) :
    Near (c * c2 - n * n2) (c * n2 + n * c2) A B C D sA sB 0 sD k := by
  subst e00; subst e01; subst e10; subst e11
  refine ⟨?_, ?_, ?_, ?_⟩
  · rw [show (c * c2 - n * n2) * ((c * c2 - n * n2) * A + (c * n2 + n * c2) * C) + (c * n2 + n * c2) * ((c * c2 - n * n2) * B + (c * n2 + n * c2) * D) - sA = c2 * c2 * (c * (c * A + n * C) + n * (c * B + n * D)) + c2 * n2 * ((c * (c * B + n * D) - n * (c * A + n * C)) + (c * (c * C - n * A) + n * (c * D - n * B))) + n2 * n2 * (c * (c * D - n * B) - n * (c * C - n * A)) - sA by grind]
    exact h1
  · rw [show (c * c2 - n * n2) * ((c * c2 - n * n2) * B + (c * n2 + n * c2) * D) - (c * n2 + n * c2) * ((c * c2 - n * n2) * A + (c * n2 + n * c2) * C) - sB = c2 * c2 * (c * (c * B + n * D) - n * (c * A + n * C)) + c2 * n2 * ((c * (c * D - n * B) - n * (c * C - n * A)) - (c * (c * A + n * C) + n * (c * B + n * D))) - n2 * n2 * (c * (c * C - n * A) + n * (c * D - n * B)) - sB by grind]
    exact h2
  · rw [show (c * c2 - n * n2) * ((c * c2 - n * n2) * C - (c * n2 + n * c2) * A) + (c * n2 + n * c2) * ((c * c2 - n * n2) * D - (c * n2 + n * c2) * B) - 0 = c2 * c2 * (c * (c * C - n * A) + n * (c * D - n * B)) + c2 * n2 * ((c * (c * D - n * B) - n * (c * C - n * A)) - (c * (c * A + n * C) + n * (c * B + n * D))) - n2 * n2 * (c * (c * B + n * D) - n * (c * A + n * C)) by grind]
    exact h3
  · rw [show (c * c2 - n * n2) * ((c * c2 - n * n2) * D - (c * n2 + n * c2) * B) - (c * n2 + n * c2) * ((c * c2 - n * n2) * C - (c * n2 + n * c2) * A) - sD = c2 * c2 * (c * (c * D - n * B) - n * (c * C - n * A)) - c2 * n2 * ((c * (c * B + n * D) - n * (c * A + n * C)) + (c * (c * C - n * A) + n * (c * D - n * B))) + n2 * n2 * (c * (c * A + n * C) + n * (c * B + n * D)) - sD by grind]
    exact h4
/-- A turn that is nearly another one. -/
theorem pert {c n c' n' A B C D sA sB sC sD m K : Rat} (hA : rabs A ≤ m) (hB : rabs B ≤ m) (hC : rabs C ≤ m) (hD : rabs D ≤ m) (h : Near c n A B C D sA sB sC sD K)
    (c1 : rabs c ≤ 1001 / 1000) (n1 : rabs n ≤ 1001 / 1000) (hc : rabs (c' - c) ≤ 42 / 10 * ulp) (hn : rabs (n' - n) ≤ 42 / 10 * ulp) : Near c' n' A B C D sA sB sC sD (K + 34 * (ulp * m)) ∧ rabs (c' * c' + n' * n' - (c * c + n * n)) ≤ 17 * ulp := by
  have u := u_small
  have c2 : rabs (c' + c) ≤ 20021 / 10000 := by
    have := absle.mp c1; have := absle.mp hc
    rw [absle]; grind
  have n2 : rabs (n' + n) ≤ 20021 / 10000 := by
    have := absle.mp n1; have := absle.mp hn
    rw [absle]; grind
  have n3 : rabs n' ≤ 10011 / 10000 := by
    have := absle.mp n1; have := absle.mp hn
    rw [absle]; grind
  have s1 := mulB hc c2
  have s2 := mulB hn n2
  have s3 := mulB hc n3
  have s4 := mulB c1 hn
  obtain ⟨a, ha⟩ : ∃ a, a = c' * c' - c * c := ⟨_, rfl⟩
  obtain ⟨b, hb⟩ : ∃ b, b = n' * n' - n * n := ⟨_, rfl⟩
  obtain ⟨d, hd⟩ : ∃ d, d = c' * n' - c * n := ⟨_, rfl⟩
  have a1 : rabs a ≤ 845 / 100 * ulp := by
    rw [ha, show c' * c' - c * c = (c' - c) * (c' + c) by grind]; grind
  have b1 : rabs b ≤ 845 / 100 * ulp := by
    rw [hb, show n' * n' - n * n = (n' - n) * (n' + n) by grind]; grind
  have d1 : rabs d ≤ 845 / 100 * ulp := by
    rw [hd, show c' * n' - c * n = (c' - c) * n' + c * (n' - n) by grind]
    have := rabs_add ((c' - c) * n') (c * (n' - n))
    grind
  have pr : ∀ {x y : Rat}, rabs x ≤ 845 / 100 * ulp → rabs y ≤ m → rabs (x * y) ≤ 845 / 100 * (ulp * m) := fun {x y} h1 h2 => by
    have := mulB h1 h2
    rw [show 845 / 100 * ulp * m = 845 / 100 * (ulp * m) by grind] at this
    exact this
  obtain ⟨h1, h2, h3, h4⟩ := h
  have aA := absle.mp (pr a1 hA)
  have aB := absle.mp (pr a1 hB)
  have aC := absle.mp (pr a1 hC)
  have aD := absle.mp (pr a1 hD)
  have bA := absle.mp (pr b1 hA)
  have bB := absle.mp (pr b1 hB)
  have bC := absle.mp (pr b1 hC)
  have bD := absle.mp (pr b1 hD)
  have dA := absle.mp (pr d1 hA)
  have dB := absle.mp (pr d1 hB)
  have dC := absle.mp (pr d1 hC)
  have dD := absle.mp (pr d1 hD)
  have h1 := absle.mp h1
  have h2 := absle.mp h2
  have h3 := absle.mp h3
  have h4 := absle.mp h4
  refine ⟨⟨?_, ?_, ?_, ?_⟩, ?_⟩
  · rw [absle, show c' * (c' * A + n' * C) + n' * (c' * B + n' * D) - sA = (c * (c * A + n * C) + n * (c * B + n * D) - sA) + (a * A + d * B + d * C + b * D) by rw [ha, hb, hd]; grind]
    generalize c * (c * A + n * C) + n * (c * B + n * D) - sA = w at h1 ⊢
    grind
  · rw [absle, show c' * (c' * B + n' * D) - n' * (c' * A + n' * C) - sB = (c * (c * B + n * D) - n * (c * A + n * C) - sB) + (a * B + d * D - d * A - b * C) by rw [ha, hb, hd]; grind]
    generalize c * (c * B + n * D) - n * (c * A + n * C) - sB = w at h2 ⊢
    grind
  · rw [absle, show c' * (c' * C - n' * A) + n' * (c' * D - n' * B) - sC = (c * (c * C - n * A) + n * (c * D - n * B) - sC) + (a * C - d * A + d * D - b * B) by rw [ha, hb, hd]; grind]
    generalize c * (c * C - n * A) + n * (c * D - n * B) - sC = w at h3 ⊢
    grind
  · rw [absle, show c' * (c' * D - n' * B) - n' * (c' * C - n' * A) - sD = (c * (c * D - n * B) - n * (c * C - n * A) - sD) + (a * D - d * B - d * C + b * A) by rw [ha, hb, hd]; grind]
    generalize c * (c * D - n * B) - n * (c * C - n * A) - sD = w at h4 ⊢
    grind
  · rw [show c' * c' + n' * n' - (c * c + n * n) = a + b by rw [ha, hb]; grind]
    have := rabs_add a b
    grind

theorem abs_fine {a : Int} : U (mag a) ∧ mag (mag a) = mag a ∧ neg (mag a) = false ∧ val (mag a) = rabs (val a) := by
  obtain ⟨h0, h1⟩ := mag_lt (a := a)
  have m2 : mag (mag a) = mag a := by have : mag (mag a) = mag a % 9223372036854775808 := rfl; omega
  have n : neg (mag a) = false := by unfold neg; simp only [decide_eq_false_iff_not]; omega
  refine ⟨⟨h0, by omega⟩, m2, n, ?_⟩
  have : val (mag a) = vm (mag (mag a)) := by unfold val; rw [n]; rfl
  rw [this, m2, rabs_val]
theorem neg_of_lt {a : Int} (h : val a < 0) : neg a = true := by
  cases n : neg a
  · have := val_pos n; grind
  · rfl
theorem neg_of_gt {a : Int} (h : 0 < val a) : neg a = false := by
  cases n : neg a
  · rfl
  · exfalso
    have hv : val a = -vm (mag a) := by unfold val; rw [n]; rfl
    have := vm_nonneg (mag_lt (a := a)).1
    grind
theorem word_Abs_mag {a : Int} (h : U a) : word_Abs.f a = some (mag a) := word_Abs_eq h
theorem word_Neg_neg {a : Int} (h : U a) : word_Neg.f a = some (neg a) := word_Neg_eq h
theorem word_Sign_eq {a b : Int} (ha : U a) (hb : U b) : word_Sign.f a b = some (signed (neg b) (mag a)) := by
  unfold word_Sign.f
  rw [word_Abs_mag ha]
  have e : Go.bits .and .u64 b 9223372036854775808 = if neg b then 9223372036854775808 else 0 := by
    have h1 := u64_top hb.1 hb.2
    have hx := u64_xor hb.1 hb.2
    have : Go.bits .and .u64 b 9223372036854775808 = b - Go.bits .andNot .u64 b 9223372036854775808 := by
      obtain ⟨n, rfl⟩ := Int.eq_ofNat_of_zero_le hb.1
      have hn : n < 18446744073709551616 := by have := hb.2; omega
      have hand : Go.bits .and .u64 (n : Int) 9223372036854775808 = ((n &&& 9223372036854775808 : Nat) : Int) := by
        exact (bits_nat .u64 64 (by decide) wraps_u64 n 9223372036854775808 (by omega) (by decide)).1
      rw [hand, h1]
      have h2 : n &&& 9223372036854775808 = n - n % 9223372036854775808 := by
        have e63 : (9223372036854775808 : Nat) = 2 ^ 63 := by decide
        have h3 : n &&& 9223372036854775808 = if 9223372036854775808 ≤ n then 9223372036854775808 else 0 := by
          apply Nat.eq_of_testBit_eq
          intro i
          rw [Nat.testBit_and]
          have e1 : Nat.testBit 9223372036854775808 i = decide (63 = i) := by rw [e63]; exact Nat.testBit_two_pow
          rw [e1]
          by_cases c : 63 = i
          · subst c
            rw [Nat.testBit_eq_decide_div_mod_eq]
            by_cases d : 9223372036854775808 ≤ n
            · rw [if_pos d, e1]
              have : n / 2 ^ 63 % 2 = 1 := by omega
              simp [this]
            · rw [if_neg d]
              have : n / 2 ^ 63 % 2 = 0 := by omega
              simp [this]
          · rw [decide_eq_false c, Bool.and_false]
            split
            · rw [e1, decide_eq_false c]
            · simp
        rw [h3]
        split <;> omega
      rw [h2]; omega
    rw [this, h1]
    unfold neg
    obtain ⟨h0, h2⟩ := hb
    by_cases c : 9223372036854775808 ≤ b
    · rw [decide_eq_true c, if_pos rfl]; omega
    · rw [decide_eq_false c, if_neg (by decide)]; omega
  show some (Go.bits .or .u64 (mag a) _) = _
  rw [e]
  obtain ⟨h0, h1⟩ := mag_lt (a := a)
  unfold signed
  cases neg b
  · rw [if_neg (by decide)]
    rw [u64_or' 63 (x := 0) (by decide) (by decide) (by decide) h0 (by omega) (by omega)]
    simp
  · rw [if_pos rfl]
    rw [u64_or' 63 (x := 9223372036854775808) (by decide) (by decide) (by decide) h0 (by omega) (by omega)]
    simp; omega
/-- The order of numbers, by their patterns. -/
def rank (a : Int) : Int := if neg a then -mag a else mag a
theorem order_rank_eq {a : Int} (h : U a) : order_rank.f a = some (rank a) := by
  obtain ⟨h0, h1⟩ := mag_lt (a := a)
  unfold order_rank.f rank
  rw [word_Neg_neg h, word_Abs_mag h]
  simp only [Option.bind_some]
  by_cases n : neg a = true
  · rw [if_pos n, if_pos n, w64 (x := mag a) (by omega) (by omega), w64 (by omega) (by omega)]
  · rw [if_neg n, if_neg n]
    have : a = mag a := by
      have := signed_eta h
      simp only [Bool.not_eq_true] at n
      rw [n] at this
      unfold signed at this
      simp at this
      exact this.symm
    rw [← this, w64 (by rw [this]; omega) (by rw [this]; omega)]
theorem rank_lt {a b : Int} : rank a < rank b ↔ val a < val b := by
  obtain ⟨a0, a1⟩ := mag_lt (a := a)
  obtain ⟨b0, b1⟩ := mag_lt (a := b)
  have va := vm_nonneg a0
  have vb := vm_nonneg b0
  have pa : 0 < mag a → 0 < vm (mag a) := vm_pos
  have pb : 0 < mag b → 0 < vm (mag b) := vm_pos
  have za : mag a = 0 → vm (mag a) = 0 := fun h => by rw [h, vm_zero]
  have zb : mag b = 0 → vm (mag b) = 0 := fun h => by rw [h, vm_zero]
  have i1 := vm_lt_iff a0 b0
  have i2 := vm_lt_iff b0 a0
  unfold rank val
  cases neg a <;> cases neg b <;> simp only [if_true, if_false, Bool.false_eq_true]
  · exact i1.symm
  · constructor
    · intro h; omega
    · intro h; grind
  · constructor
    · intro h
      by_cases c : 0 < mag a
      · have := pa c; grind
      · have := pb (by omega); grind
    · intro h
      by_cases c : 0 < mag a
      · omega
      · by_cases d : 0 < mag b
        · omega
        · have := za (by omega); have := zb (by omega); grind
  · constructor
    · intro h
      have := i2.mpr (by omega)
      grind
    · intro h
      have := i2.mp (by grind)
      omega
theorem kind_nn {a : Int} (h : fin a) : ¬ kindOf (a % 9223372036854775808) = 5 := by
  have e : a % 9223372036854775808 = mag a := rfl
  rw [e, kind5 mag_lt.1]
  unfold fin INF at h
  omega
theorem order_Less_ev {a b : Int} (ha : U a) (hb : U b) (fa : fin a) (fb : fin b) : Ev (fun k => order_Less.f k a b) (decide (val a < val b)) := by
  have hc : ∃ r, Ev (fun k => order_Cmp.f k a b) (r, true) ∧ (r < 0 ↔ val a < val b) := by
    have st : ∀ {r : Int × Bool}, Ev (fun k => (if rank a < rank b then some (((-1 : Int), true)) else (if rank a > rank b then some ((1 : Int), true) else some ((0 : Int), true)))) r → Ev (fun k => order_Cmp.f k a b) r := fun {r} h => by
      unfold order_Cmp.f
      refine Ev.bind (word_Kind_ev ha) (Ev.neg (kind_nn fa) (Ev.bind (word_Kind_ev hb) (Ev.succ ?_)))
      simp only [order_Cmp.j0]
      refine Ev.neg (by have := kind_nn fb; simpa using this) (Ev.call (order_rank_eq ha) (Ev.call (order_rank_eq hb) h))
    by_cases c : rank a < rank b
    · exact ⟨-1, st (Ev.pos c (Ev.now _)), by rw [← rank_lt]; exact ⟨fun _ => c, fun _ => by decide⟩⟩
    · by_cases d : rank a > rank b
      · exact ⟨1, st (Ev.neg c (Ev.pos d (Ev.now _))), by rw [← rank_lt]; exact ⟨fun h => absurd h (by decide), fun h => absurd h c⟩⟩
      · exact ⟨0, st (Ev.neg c (Ev.neg d (Ev.now _))), by rw [← rank_lt]; exact ⟨fun h => absurd h (by decide), fun h => absurd h c⟩⟩
  obtain ⟨r, ev, h⟩ := hc
  unfold order_Less.f
  refine Ev.bind ev (Ev.pos (by trivial) ?_)
  have : decide (r < 0) = decide (val a < val b) := by rw [decide_eq_decide]; exact h
  show Ev (fun _ => some (decide (r < 0))) _
  rw [this]
  exact Ev.now _
/-- The greater of two that have no sign. -/
theorem mx_fine {a b : Int} (ha : U a) (hb : U b) (na : neg a = false) (nb : neg b = false) : (mx a b = a ∨ mx a b = b) ∧ val a ≤ val (mx a b) ∧ val b ≤ val (mx a b) := by
  have r : a < b ↔ val a < val b := by
    have e1 : rank a = a := by
      have := signed_eta ha
      rw [na] at this
      unfold rank; rw [na]; unfold signed at this; simpa using this
    have e2 : rank b = b := by
      have := signed_eta hb
      rw [nb] at this
      unfold rank; rw [nb]; unfold signed at this; simpa using this
    rw [← rank_lt, e1, e2]
  unfold mx
  by_cases c : a < b
  · rw [if_pos c]
    exact ⟨.inr rfl, Rat.le_of_lt (r.mp c), Rat.le_refl⟩
  · rw [if_neg c]
    exact ⟨.inl rfl, Rat.le_refl, Rat.not_lt.mp fun h => c (r.mpr h)⟩
theorem val_half : val 4602678819172646912 = 1 / 2 := by decide +kernel
theorem val_one : val 4607182418800017408 = 1 := by decide +kernel
theorem val_tiny : val 4377498837804122112 = pw (-51) := by decide +kernel
theorem U_half : U 4602678819172646912 := by constructor <;> decide
theorem U_one : U 4607182418800017408 := by constructor <;> decide
theorem U_tiny : U 4377498837804122112 := by constructor <;> decide
theorem fin_half : fin 4602678819172646912 := by decide
theorem fin_one : fin 4607182418800017408 := by decide
theorem fin_tiny : fin 4377498837804122112 := by decide
/-- Half of a number that isn't too small is told exactly. -/
theorem half_exact {a : Int} (ha : U a) (fa : fin a) (h : val a = 0 ∨ pw (-1020) ≤ rabs (val a)) : fin (mv 4602678819172646912 a) ∧ val (mv 4602678819172646912 a) = val a / 2 := by
  have R := mv_Rd U_half ha fin_half fa
  rw [val_half] at R
  have ex : ∃ b, U b ∧ fin b ∧ val b = 1 / 2 * val a := by
    rcases h with h | h
    · refine ⟨0, ⟨by decide, by decide⟩, by decide, ?_⟩
      rw [h, show val 0 = 0 by decide +kernel]; grind
    · obtain ⟨e1, e2⟩ := fin_expo fa
      have m0 : 0 < mag a := by
        have h0 := (mag_lt (a := a)).1
        by_cases c : mag a = 0
        · rw [rabs_val, c, vm_zero] at h
          have := pw_pos (-1020)
          grind
        · omega
      have ge := mant_ge (m := mag a) (by omega)
      have ep : -1074 ≤ expo (mag a) - 1 := by
        rcases ge with g | g
        · exfalso
          have : vm (mag a) < pw (-1020) := by
            unfold vm
            rw [g]
            have l : mant (mag a) < 9007199254740992 := mant_lt
            have e : pw (-1020) = ((18014398509481984 : Int) : Rat) * pw (-1074) := by decide +kernel
            rw [e]
            exact mul_pw_lt.mpr (by omega)
          rw [rabs_val] at h
          grind
        · have : expo (mag a) ≠ -1074 := by
            intro g2
            have : vm (mag a) < pw (-1020) := by
              unfold vm
              rw [g2]
              have l : mant (mag a) < 9007199254740992 := mant_lt
              have e : pw (-1020) = ((18014398509481984 : Int) : Rat) * pw (-1074) := by decide +kernel
              rw [e]
              exact mul_pw_lt.mpr (by omega)
            rw [rabs_val] at h
            grind
          omega
      obtain ⟨m, mp, hm⟩ := repr_exists (D := mant (mag a)) (G := expo (mag a) - 1) (mant_pos m0) (by have := mant_lt (m := mag a); omega) ep
      have hh : vm m = vm (mag a) / 2 := by
        rw [hm]; unfold vm
        have := pw_pred (expo (mag a))
        grind
      have mI : m < INF := by
        have h1 : vm m ≤ vm (mag a) := by
          have := vm_nonneg (mag_lt (a := a)).1
          grind
        have := (vm_le_iff (by omega) (mag_lt (a := a)).1).mp h1
        unfold fin at fa
        omega
      have hI : INF < 9223372036854775808 := by decide
      refine ⟨signed (neg a) m, U_signed (by omega) (by omega), by unfold fin; rw [mag_signed (by omega) (by omega)]; exact mI, ?_⟩
      rw [val_signed (by omega) (by omega), hh]
      unfold val
      cases neg a <;> simp <;> grind
  obtain ⟨b, ub, fb, vb⟩ := ex
  obtain ⟨f0, rb⟩ := R.of_exact ub fb vb
  have : (mP 4602678819172646912 a).2 = 0 := f0
  rw [this] at R
  obtain ⟨v, f⟩ := R.exact
  exact ⟨f, by rw [v]; grind⟩

/-- A word that is a number, and nought or not small, and not great. -/
def Mid (x : Int) : Prop := U x ∧ fin x ∧ (val x = 0 ∨ pw (-500) ≤ rabs (val x)) ∧ rabs (val x) ≤ 2

theorem grid {a : Int} (fa : fin a) (h : val a = 0 ∨ pw (-500) ≤ rabs (val a)) : ∃ k : Int, val a = (k : Rat) * pw (-552) := by
  rcases h with h | h
  · exact ⟨0, by rw [h]; grind⟩
  obtain ⟨e1, e2⟩ := fin_expo fa
  have ep : -552 ≤ expo (mag a) := by
    refine Int.not_lt.mp fun hlt => ?_
    have l : mant (mag a) < 9007199254740992 := mant_lt
    have p0 := pw_pos (expo (mag a))
    have h1 : vm (mag a) < pw (-500) := by
      unfold vm
      have h3 := (mul_pw_lt (a := mant (mag a)) (b := 9007199254740992) (e := expo (mag a))).mpr l
      have h4 := pw_mono (a := expo (mag a)) (b := -553) (by omega)
      have h5 : ((9007199254740992 : Int) : Rat) * pw (-553) ≤ pw (-500) := by decide +kernel
      have h6 := Rat.mul_le_mul_of_nonneg_left h4 (show (0 : Rat) ≤ ((9007199254740992 : Int) : Rat) by decide)
      grind
    rw [rabs_val] at h
    grind
  have e : vm (mag a) = ((mant (mag a) * p2 (expo (mag a) + 552) : Int) : Rat) * pw (-552) := by
    unfold vm
    have : pw (expo (mag a)) = ((p2 (expo (mag a) + 552) : Int) : Rat) * pw (-552) := by
      rw [← pw_p2 (by omega), ← pw_add]; congr 1; omega
    rw [this]; push_cast; grind
  unfold val
  split
  · exact ⟨-(mant (mag a) * p2 (expo (mag a) + 552)), by rw [e]; push_cast; grind⟩
  · exact ⟨_, e⟩
theorem grid_big {x : Rat} {k : Int} (h : x = (k : Rat) * pw (-552)) (h0 : x ≠ 0) : pw (-552) ≤ rabs x := by
  have p := pw_pos (-552)
  have k0 : k ≠ 0 := fun hk => h0 (by rw [h, hk]; grind)
  have hk : (1 : Rat) ≤ rabs (k : Rat) := by
    unfold rabs
    by_cases s : k < 0
    · have h1 : (k : Rat) ≤ ((-1 : Int) : Rat) := by exact_mod_cast (by omega : k ≤ -1)
      have h2 : ((-1 : Int) : Rat) = -1 := by decide
      rw [h2] at h1
      rw [if_pos (by grind)]; grind
    · have h1 : (1 : Rat) ≤ k := by exact_mod_cast (by omega : 1 ≤ k)
      rw [if_neg (by grind)]; exact h1
  rw [h, rabs_mul, rabs_of_nonneg (Rat.le_of_lt p)]
  have := Rat.mul_le_mul_of_nonneg_right hk (Rat.le_of_lt p)
  grind
/-- What is near a number that isn't small isn't small. -/
theorem near_big {x y l : Rat} (h : rabs (y - x) ≤ ulp * rabs x) (l0 : l ≤ rabs x) : l * (999 / 1000) ≤ rabs y := by
  have u := uu (rabs_nonneg x)
  have t := rabs_add y (-(y - x))
  rw [rabs_neg, show y + -(y - x) = x by grind] at t
  by_cases c : 0 ≤ l
  · grind
  · have := rabs_nonneg y; grind
theorem near_nz {x y : Rat} (h : rabs (y - x) ≤ ulp * rabs x) : y = 0 ↔ x = 0 := by
  have u := uu (rabs_nonneg x)
  constructor
  · intro hy
    rw [hy, show 0 - x = -x by grind, rabs_neg] at h
    refine Classical.byContradiction fun hx => ?_
    have := rabs_pos hx
    grind
  · intro hx
    rw [hx, rabs_zero] at h
    refine Classical.byContradiction fun hy => ?_
    have := rabs_pos hy
    rw [show y - 0 = y by grind] at h
    grind
theorem near_le {x y k : Rat} (h : rabs (y - x) ≤ ulp * rabs x) (l : rabs x ≤ k) : rabs y ≤ k * (1001 / 1000) := by
  have u := uu (rabs_nonneg x)
  have t := rabs_add (y - x) x
  rw [show y - x + x = y by grind] at t
  grind
/-- A sum of two such, reckoned. -/
theorem mid_add {a b : Int} (ha : Mid a) (hb : Mid b) : U (av a b) ∧ fin (av a b) ∧ rabs (val (av a b) - (val a + val b)) ≤ ulp * rabs (val a + val b) ∧ (val (av a b) = 0 ∨ pw (-553) ≤ rabs (val (av a b))) ∧ rabs (val (av a b)) ≤ 401 / 100 := by
  obtain ⟨ua, fa, la, ga⟩ := ha
  obtain ⟨ub, fb, lb, gb⟩ := hb
  have t := rabs_add (val a) (val b)
  have big : (4 : Rat) ≤ pw 1000 := by decide +kernel
  obtain ⟨f, e⟩ := add_rel ua ub fa fb (by grind)
  refine ⟨av_U ua ub, f, e, ?_, ?_⟩
  · by_cases h0 : val a + val b = 0
    · exact .inl ((near_nz e).mpr h0)
    · right
      obtain ⟨k1, e1⟩ := grid fa la
      obtain ⟨k2, e2⟩ := grid fb lb
      have g := grid_big (x := val a + val b) (k := k1 + k2) (by rw [e1, e2]; push_cast; grind) h0
      have n := near_big e g
      have p : pw (-553) ≤ pw (-552) * (999 / 1000) := by decide +kernel
      grind
  · have := near_le e (show rabs (val a + val b) ≤ 4 by grind)
    grind
theorem Mid.flip {a : Int} (h : Mid a) : Mid (flip a) := by
  obtain ⟨ua, fa, la, ga⟩ := h
  refine ⟨U_flip ua, by unfold fin; rw [mag_flip ua]; exact fa, ?_, ?_⟩
  · rw [val_flip ua, rabs_neg]
    rcases la with h | h
    · left; grind
    · exact .inr h
  · rw [val_flip ua, rabs_neg]; exact ga
theorem rdiv_abs {x y : Rat} (y0 : 0 < y) : rabs (x / y) * y = rabs x := by
  have e : x = x / y * y := by rw [Rat.div_mul_cancel (by grind)]
  have h := rabs_mul (x / y) y
  rw [← e, rabs_of_nonneg (Rat.le_of_lt y0)] at h
  exact h.symm
theorem rdiv_le {x y k : Rat} (y0 : 0 < y) (h : rabs x ≤ k * y) : rabs (x / y) ≤ k := by
  have e := rdiv_abs (x := x) y0
  refine Rat.not_lt.mp fun hlt => ?_
  have := Rat.mul_lt_mul_of_pos_right hlt y0
  grind
theorem rdiv_ge {x y k : Rat} (y0 : 0 < y) (h : k * y ≤ rabs x) : k ≤ rabs (x / y) := by
  have e := rdiv_abs (x := x) y0
  refine Rat.not_lt.mp fun hlt => ?_
  have := Rat.mul_lt_mul_of_pos_right hlt y0
  grind
/-- A quotient, reckoned, times what it is divided by. -/
theorem div_back {x y q : Rat} (y0 : 0 < y) (h : rabs (q - x / y) ≤ ulp * rabs (x / y)) : rabs (q * y - x) ≤ ulp * rabs x := by
  have e : q * y - x = (q - x / y) * y := by
    have : x / y * y = x := Rat.div_mul_cancel (by grind)
    grind
  rw [e, rabs_mul, rabs_of_nonneg (Rat.le_of_lt y0)]
  have a := Rat.mul_le_mul_of_nonneg_right h (Rat.le_of_lt y0)
  have e2 := rdiv_abs (x := x) y0
  have e3 : ulp * rabs (x / y) * y = ulp * (rabs (x / y) * y) := by grind
  rw [e3, e2] at a
  exact a
theorem rdiv_abs' {x y : Rat} (y0 : y ≠ 0) : rabs (x / y) * rabs y = rabs x := by
  rw [← rabs_mul, Rat.div_mul_cancel y0]
theorem rdiv_le' {x y k : Rat} (y0 : y ≠ 0) (h : rabs x ≤ k * rabs y) : rabs (x / y) ≤ k := by
  have e := rdiv_abs' (x := x) y0
  refine Rat.not_lt.mp fun hlt => ?_
  have := Rat.mul_lt_mul_of_pos_right hlt (rabs_pos y0)
  grind
theorem rdiv_ge' {x y k : Rat} (y0 : y ≠ 0) (h : k * rabs y ≤ rabs x) : k ≤ rabs (x / y) := by
  have e := rdiv_abs' (x := x) y0
  refine Rat.not_lt.mp fun hlt => ?_
  have := Rat.mul_lt_mul_of_pos_right hlt (rabs_pos y0)
  grind
/-- The discriminant. -/
theorem disc_err {s p bg sm q1 q2 q3 q4 z P BC : Rat} (s0 : 0 < s) (s3 : s ≤ 3) (hP : P = p * p) (hB : BC = bg * sm) (hlo : pw (-1000) ≤ rabs BC)
    (h1 : rabs (q1 * s - p) ≤ ulp * rabs p) (h2 : rabs (q2 - q1 * p) ≤ ulp * rabs (q1 * p) + eta) (h3 : rabs (q3 * s - bg) ≤ ulp * rabs bg) (h4 : rabs (q4 - q3 * sm) ≤ ulp * rabs (q3 * sm))
    (h5 : rabs (z - (q2 + q4)) ≤ ulp * rabs (q2 + q4)) : rabs (s * z - (P + BC)) ≤ 33 / 10 * (ulp * (P + rabs BC)) := by
  have u := u_small
  have P0 : 0 ≤ P := by rw [hP]; exact sq_nn p
  have as_ : rabs s = s := rabs_of_nonneg (Rat.le_of_lt s0)
  have ms : ∀ {x k : Rat}, rabs x ≤ k → rabs (s * x) ≤ s * k := fun {x k} h => by
    rw [rabs_mul, as_]; exact Rat.mul_le_mul_of_nonneg_left h (Rat.le_of_lt s0)
  have b0 := rabs_nonneg BC
  have uP := uu P0
  have uB := uu b0
  -- the square
  have a1 : rabs (s * (q1 * p) - P) ≤ ulp * P := by
    have e : s * (q1 * p) - P = (q1 * s - p) * p := by rw [hP]; grind
    rw [e, rabs_mul]
    have := Rat.mul_le_mul_of_nonneg_right h1 (rabs_nonneg p)
    have e2 : ulp * rabs p * rabs p = ulp * P := by rw [hP, ← rabs_sq p]; grind
    rw [e2] at this
    exact this
  have a2 : rabs (s * (q1 * p)) ≤ P + ulp * P := by
    have t := rabs_add (s * (q1 * p) - P) P
    rw [show s * (q1 * p) - P + P = s * (q1 * p) by grind, rabs_of_nonneg P0] at t
    grind
  have a3 := ms h2
  have e3 : s * (ulp * rabs (q1 * p) + eta) = ulp * rabs (s * (q1 * p)) + s * eta := by rw [rabs_mul s, as_]; grind
  rw [e3] at a3
  have a2u := uul a2
  have et : s * eta ≤ ulp * rabs BC / 1000 := by
    have h := Rat.mul_le_mul_of_nonneg_right s3 (show (0 : Rat) ≤ eta by decide +kernel)
    have k : 3 * eta ≤ ulp * pw (-1000) / 1000 := by decide +kernel
    have := uul hlo
    grind
  -- the product
  have c1 : rabs (s * (q3 * sm) - BC) ≤ ulp * rabs BC := by
    have e : s * (q3 * sm) - BC = (q3 * s - bg) * sm := by rw [hB]; grind
    rw [e, rabs_mul]
    have := Rat.mul_le_mul_of_nonneg_right h3 (rabs_nonneg sm)
    rw [hB, rabs_mul]
    grind
  have c2 : rabs (s * (q3 * sm)) ≤ rabs BC + ulp * rabs BC := by
    have t := rabs_add (s * (q3 * sm) - BC) BC
    rw [show s * (q3 * sm) - BC + BC = s * (q3 * sm) by grind] at t
    grind
  have c3 := ms h4
  have e4 : s * (ulp * rabs (q3 * sm)) = ulp * rabs (s * (q3 * sm)) := by rw [rabs_mul s, as_]; grind
  rw [e4] at c3
  have c2u := uul c2
  have d := ms h5
  have e5 : s * (ulp * rabs (q2 + q4)) = ulp * rabs (s * (q2 + q4)) := by rw [rabs_mul s, as_]; grind
  rw [e5] at d
  -- all
  have euP : ulp * (P + ulp * P) = ulp * P + ulp * (ulp * P) := by grind
  have euB : ulp * (rabs BC + ulp * rabs BC) = ulp * rabs BC + ulp * (ulp * rabs BC) := by grind
  have uuP := uu uP.1
  have uuB := uu uB.1
  have f1 : rabs (s * q2 - P) ≤ 2002 / 1000 * (ulp * P) + ulp * rabs BC / 1000 := by
    have t := rabs_add (s * (q2 - q1 * p)) (s * (q1 * p) - P)
    rw [show s * (q2 - q1 * p) + (s * (q1 * p) - P) = s * q2 - P by grind] at t
    grind
  have f2 : rabs (s * q4 - BC) ≤ 2002 / 1000 * (ulp * rabs BC) := by
    have t := rabs_add (s * (q4 - q3 * sm)) (s * (q3 * sm) - BC)
    rw [show s * (q4 - q3 * sm) + (s * (q3 * sm) - BC) = s * q4 - BC by grind] at t
    grind
  have f3 : rabs (s * (q2 + q4)) ≤ 1001 / 1000 * (P + rabs BC) := by
    have t := rabs_add (s * q2 - P) (s * q4 - BC)
    have t2 := rabs_add (s * q2 - P + (s * q4 - BC)) (P + BC)
    rw [show s * q2 - P + (s * q4 - BC) + (P + BC) = s * (q2 + q4) by grind] at t2
    have t3 := rabs_add P BC
    rw [rabs_of_nonneg P0] at t3
    grind
  have uf3 := uul f3
  have e6 : ulp * (1001 / 1000 * (P + rabs BC)) = 1001 / 1000 * (ulp * P + ulp * rabs BC) := by grind
  have t := rabs_add (s * (z - (q2 + q4))) ((s * q2 - P) + (s * q4 - BC))
  have t2 := rabs_add (s * q2 - P) (s * q4 - BC)
  rw [show s * (z - (q2 + q4)) + ((s * q2 - P) + (s * q4 - BC)) = s * z - (P + BC) by grind] at t
  have e7 : ulp * (P + rabs BC) = ulp * P + ulp * rabs BC := by grind
  rw [e7]
  grind

/-- The greater and the lesser of the two beside the diagonal. -/
theorem j0_ev {d A B C D F : Int} (ud : U d) (hB : Mid B) (hC : Mid C) (b0 : val B ≠ 0) (c0 : val C ≠ 0) :
    ∃ big sm F', Mid big ∧ Mid sm ∧ neg big = false ∧ val big * val sm = val B * val C ∧ rabs (val sm) ≤ val big ∧ pw (-500) ≤ val big ∧ val sm ≠ 0 ∧
    ∀ r, Ev (fun k => block_standard.j2 k d (mv 4602678819172646912 d) big sm A B C D F') r → Ev (fun k => block_standard.j0 k d A B C D F) r := by
  obtain ⟨uB, fB, lB, gB⟩ := hB
  obtain ⟨uC, fC, lC, gC⟩ := hC
  have oB := abs_fine (a := B)
  have oC := abs_fine (a := C)
  have half : ∀ {x : Int}, U x → fin x → (val x = 0 ∨ pw (-500) ≤ rabs (val x)) → rabs (val x) ≤ 2 → Mid (mag x) := fun {x} ux fx lx gx => by
    obtain ⟨um, mm, nm, vm⟩ := abs_fine (a := x)
    refine ⟨um, by unfold fin; rw [mm]; exact fx, ?_, ?_⟩
    · rw [vm, rabs_of_nonneg (rabs_nonneg _)]
      rcases lx with h | h
      · left; rw [h, rabs_zero]
      · exact .inr h
    · rw [vm, rabs_of_nonneg (rabs_nonneg _)]; exact gx
  have mB := half uB fB lB gB
  have mC := half uC fC lC gC
  have lo : ∀ {x : Int}, (val x = 0 ∨ pw (-500) ≤ rabs (val x)) → val x ≠ 0 → pw (-500) ≤ rabs (val x) := fun h h0 => by
    rcases h with h | h
    · exact absurd h h0
    · exact h
  have lB' := lo lB b0
  have lC' := lo lC c0
  have rk : ∀ x : Int, rank (mag x) = mag x := fun x => by unfold rank; rw [(abs_fine (a := x)).2.2.1, (abs_fine (a := x)).2.1]; simp
  have cmp : mag B < mag C ↔ rabs (val B) < rabs (val C) := by
    rw [← oB.2.2.2, ← oC.2.2.2, ← rank_lt, rk, rk]
  -- the signs
  have sg : neg B ≠ neg C → rabs (val B) * rabs (val C) = -(val B * val C) := fun h => by
    have e1 : neg B = true ∧ neg C = false ∨ neg B = false ∧ neg C = true := by revert h; cases neg B <;> cases neg C <;> simp
    have vB : rabs (val B) = vm (mag B) := rabs_val B
    have vC : rabs (val C) = vm (mag C) := rabs_val C
    rw [vB, vC]
    unfold val
    rcases e1 with ⟨e, f⟩ | ⟨e, f⟩ <;> rw [e, f] <;> simp <;> grind
  have sg2 : ¬ neg B ≠ neg C → rabs (val B) * rabs (val C) = val B * val C := fun h => by
    have e1 : neg B = neg C := Classical.byContradiction fun h2 => h h2
    have vB : rabs (val B) = vm (mag B) := rabs_val B
    have vC : rabs (val C) = vm (mag C) := rabs_val C
    rw [vB, vC]
    unfold val
    rw [e1]
    cases neg C <;> simp <;> grind
  -- the lesser's sign
  have fin1 : ∀ (b s : Int), Mid b → Mid s → neg b = false → val b * val s = rabs (val B) * rabs (val C) → rabs (val s) ≤ val b → pw (-500) ≤ val b → val s ≠ 0 → (∀ r, Ev (fun k => block_standard.j1 k d (mv 4602678819172646912 d) b s A B C D (cM F 4602678819172646912 d).2) r → Ev (fun k => block_standard.j0 k d A B C D F) r) →
      ∃ big sm F', Mid big ∧ Mid sm ∧ neg big = false ∧ val big * val sm = val B * val C ∧ rabs (val sm) ≤ val big ∧ pw (-500) ≤ val big ∧ val sm ≠ 0 ∧
        ∀ r, Ev (fun k => block_standard.j2 k d (mv 4602678819172646912 d) big sm A B C D F') r → Ev (fun k => block_standard.j0 k d A B C D F) r := by
    intro b s hb hs nb hp hle hlo hs0 hj
    by_cases c : neg B ≠ neg C
    · refine ⟨b, flip s, (cM F 4602678819172646912 d).2, hb, hs.flip, nb, ?_, ?_, hlo, ?_, fun r h => hj r (Ev.succ ?_)⟩
      · rw [val_flip hs.1]; have := sg c; grind
      · rw [val_flip hs.1, rabs_neg]; exact hle
      · rw [val_flip hs.1]; grind
      · simp only [block_standard.j1]
        exact Ev.call (word_Neg_neg uB) (Ev.call (word_Neg_neg uC) (Ev.pos (by simpa using c) (Ev.call (word_Flip_eq hs.1) h)))
    · refine ⟨b, s, (cM F 4602678819172646912 d).2, hb, hs, nb, ?_, hle, hlo, hs0, fun r h => hj r (Ev.succ ?_)⟩
      · have := sg2 c; grind
      · simp only [block_standard.j1]
        exact Ev.call (word_Neg_neg uB) (Ev.call (word_Neg_neg uC) (Ev.neg (by simpa using c) h))
  have st : ∀ {r : Int × Int × Int × Int × Int × Int}, Ev (fun k => (if mag B < mag C then block_standard.j1 k d (mv 4602678819172646912 d) (mag C) (mag B) A B C D (cM F 4602678819172646912 d).2 else block_standard.j1 k d (mv 4602678819172646912 d) (mag B) (mag C) A B C D (cM F 4602678819172646912 d).2)) r → Ev (fun k => block_standard.j0 k d A B C D F) r := fun {r} h => by
    refine Ev.succ ?_
    simp only [block_standard.j0]
    exact Ev.bind (cM_ev U_half ud) (Ev.call (word_Abs_mag uB) (Ev.call (word_Abs_mag uC) h))
  by_cases c : mag B < mag C
  · have h := cmp.mp c
    exact fin1 (mag C) (mag B) mC mB oC.2.2.1 (by rw [oB.2.2.2, oC.2.2.2]; grind) (by rw [oB.2.2.2, oC.2.2.2, rabs_of_nonneg (rabs_nonneg _)]; exact Rat.le_of_lt h) (by rw [oC.2.2.2]; exact lC') (by rw [oB.2.2.2]; have := rabs_pos b0; grind) fun r hr => st (Ev.pos c hr)
  · have h := Rat.not_lt.mp fun h => c (cmp.mpr h)
    exact fin1 (mag B) (mag C) mB mC oB.2.2.1 (by rw [oB.2.2.2, oC.2.2.2]) (by rw [oB.2.2.2, oC.2.2.2, rabs_of_nonneg (rabs_nonneg _)]; exact h) (by rw [oB.2.2.2]; exact lB') (by rw [oC.2.2.2]; have := rabs_pos c0; grind) fun r hr => st (Ev.neg c hr)
section
variable {A B C D big sm d p : Int} {m : Rat}
  (hA : Mid A) (hB : Mid B) (hC : Mid C) (hD : Mid D) (m1 : 1 ≤ m) (m2 : m ≤ 2)
  (lA : rabs (val A) ≤ m) (lB : rabs (val B) ≤ m) (lC : rabs (val C) ≤ m) (lD : rabs (val D) ≤ m)
  (hd : d = av A (flip D)) (hp : p = mv 4602678819172646912 d) (b0 : val B ≠ 0) (c0 : val C ≠ 0)
  (hbig : Mid big) (hsm : Mid sm) (nb : neg big = false) (hbs : val big * val sm = val B * val C) (hle : rabs (val sm) ≤ val big) (hlo : pw (-500) ≤ val big) (sm0 : val sm ≠ 0)
include hA hB hC hD m1 m2 lA lB lC lD hd hp b0 c0 hbig hsm nb hbs hle hlo sm0
/-- The numbers of the discriminant. -/
theorem disc_words : U d ∧ fin d ∧ rabs (val d - (val A - val D)) ≤ ulp * rabs (val A - val D) ∧ (val d = 0 ∨ pw (-553) ≤ rabs (val d)) ∧ rabs (val d) ≤ 401 / 100 ∧
    U p ∧ fin p ∧ val p = val d / 2 ∧
    ∃ s z, U s ∧ fin s ∧ U z ∧ fin z ∧ pw (-500) ≤ val s ∧ val s ≤ 3 ∧ rabs (val p) ≤ val s ∧ val big ≤ val s ∧ rabs (val z) ≤ 10 ∧
      rabs (val s * val z - (val p * val p + val B * val C)) ≤ 33 / 10 * (ulp * (val p * val p + rabs (val B * val C))) ∧
      s = mx (mag p) big ∧
      z = av (mv (dP p s).1 p) (mv (dP big s).1 sm) := by
  have u := u_small
  obtain ⟨ud, fd, ed, ld, gd⟩ := mid_add hA hD.flip
  rw [← hd] at ud fd ed ld gd
  rw [val_flip hD.1, show val A + -val D = val A - val D by grind] at ed
  have smal : pw (-1020) ≤ pw (-553) := pw_mono (by decide)
  obtain ⟨fp, vp⟩ := half_exact ud fd (by rcases ld with h | h; exact .inl h; exact .inr (Rat.le_trans smal h))
  have up : U (mv 4602678819172646912 d) := mv_U U_half ud
  rw [← hp] at fp vp up
  refine ⟨ud, fd, ed, ld, gd, up, fp, vp, ?_⟩
  obtain ⟨uap, map, nap, vap⟩ := abs_fine (a := p)
  obtain ⟨hm, g1, g2⟩ := mx_fine uap hbig.1 nap nb
  obtain ⟨s, hs⟩ : ∃ s, s = mx (mag p) big := ⟨_, rfl⟩
  rw [← hs] at hm g1 g2
  rw [vap] at g1
  have p2 : rabs (val p) ≤ 201 / 100 := by
    rw [vp]
    have : rabs (val d / 2) = rabs (val d) / 2 := by unfold rabs; split <;> split <;> grind
    rw [this]; grind
  have lp : val p = 0 ∨ pw (-554) ≤ rabs (val p) := by
    rw [vp]
    rcases ld with h | h
    · left; rw [h]; grind
    · right
      have : rabs (val d / 2) = rabs (val d) / 2 := by unfold rabs; split <;> split <;> grind
      rw [this]
      have : pw (-554) = pw (-553) / 2 := by decide +kernel
      grind
  have b2 : val big ≤ 2 := by have := (rabs_self (val big)).1; have := hbig.2.2.2; grind
  have us : U s := by rcases hm with h | h <;> rw [h]; exact uap; exact hbig.1
  have fs : fin s := by
    rcases hm with h | h <;> rw [h]
    · unfold fin; rw [map]; exact fp
    · exact hbig.2.1
  have s3 : val s ≤ 201 / 100 := by
    rcases hm with h | h <;> rw [h]
    · rw [vap]; exact p2
    · grind
  have pl := pw_pos (-500)
  have s0 : 0 < val s := by grind
  have sne : val s ≠ 0 := by grind
  -- p by s
  have k1 : rabs (val p / val s) ≤ 1 := rdiv_le s0 (by grind)
  have big1000 : (20 : Rat) ≤ pw 1000 := by decide +kernel
  have o1 : Ok (val p / val s) := by
    refine ⟨?_, by grind⟩
    rcases lp with h | h
    · left; rw [h]; grind
    · right
      have : pw (-1022) ≤ pw (-556) := pw_mono (by decide)
      refine Rat.le_trans this (rdiv_ge s0 ?_)
      have e : pw (-556) * 3 ≤ pw (-554) := by decide +kernel
      have := Rat.mul_le_mul_of_nonneg_left (show val s ≤ 3 by grind) (Rat.le_of_lt (pw_pos (-556)))
      grind
  obtain ⟨f1, e1⟩ := div_rel up us fp fs sne o1
  have u1 : U (dP p s).1 := (dP_R up us).rangeU
  have r1 := near_le e1 k1
  -- its square
  have k2 : rabs (val (dP p s).1 * val p) ≤ 3 := by
    have := mulB r1 p2
    grind
  obtain ⟨f2, e2⟩ := mul_abs u1 up f1 fp (by grind)
  have u2 : U (mv (dP p s).1 p) := mv_U u1 up
  have eta1 : eta ≤ 1 / 1000 := by decide +kernel
  have r2 : rabs (val (mv (dP p s).1 p)) ≤ 301 / 100 := by
    have t := rabs_add (val (mv (dP p s).1 p) - val (dP p s).1 * val p) (val (dP p s).1 * val p)
    rw [show val (mv (dP p s).1 p) - val (dP p s).1 * val p + val (dP p s).1 * val p = val (mv (dP p s).1 p) by grind] at t
    have := uu (rabs_nonneg (val (dP p s).1 * val p))
    grind
  -- big by s
  have ab : rabs (val big) = val big := rabs_of_nonneg (by grind)
  have k3 : rabs (val big / val s) ≤ 1 := rdiv_le s0 (by grind)
  have l3 : pw (-502) ≤ rabs (val big / val s) := rdiv_ge s0 (by
    have e : pw (-502) * 3 ≤ pw (-500) := by decide +kernel
    have := Rat.mul_le_mul_of_nonneg_left (show val s ≤ 3 by grind) (Rat.le_of_lt (pw_pos (-502)))
    grind)
  obtain ⟨f3, e3⟩ := div_rel hbig.1 us hbig.2.1 fs sne ⟨.inr (Rat.le_trans (pw_mono (by decide)) l3), by grind⟩
  have u3 : U (dP big s).1 := (dP_R hbig.1 us).rangeU
  have r3 := near_le e3 k3
  have r3l := near_big e3 l3
  have lsm : pw (-500) ≤ rabs (val sm) := by
    rcases hsm.2.2.1 with h | h
    · exact absurd h sm0
    · exact h
  have k4 : rabs (val (dP big s).1 * val sm) ≤ 3 := by
    have := mulB r3 hsm.2.2.2
    grind
  have l4 : pw (-1004) ≤ rabs (val (dP big s).1 * val sm) := by
    rw [rabs_mul]
    have a := Rat.mul_le_mul_of_nonneg_left lsm (rabs_nonneg (val (dP big s).1))
    have b := Rat.mul_le_mul_of_nonneg_right r3l (Rat.le_of_lt pl)
    have e : pw (-1004) ≤ pw (-502) * (999 / 1000) * pw (-500) := by decide +kernel
    grind
  obtain ⟨f4, e4⟩ := mul_rel u3 hsm.1 f3 hsm.2.1 ⟨.inr (Rat.le_trans (pw_mono (by decide)) l4), by grind⟩
  have u4 : U (mv (dP big s).1 sm) := mv_U u3 hsm.1
  have r4 := near_le e4 k4
  -- the sum
  have k5 : rabs (val (mv (dP p s).1 p) + val (mv (dP big s).1 sm)) ≤ 7 := by
    have := rabs_add (val (mv (dP p s).1 p)) (val (mv (dP big s).1 sm))
    grind
  obtain ⟨f5, e5⟩ := add_rel u2 u4 f2 f4 (by grind)
  have r5 := near_le e5 k5
  refine ⟨s, _, us, fs, av_U u2 u4, f5, Rat.le_trans hlo g2, by grind, g1, g2, by grind, ?_, hs, rfl⟩
  rw [← hbs]
  have lBC : pw (-1000) ≤ rabs (val big * val sm) := by
    rw [rabs_mul, ab]
    have a := Rat.mul_le_mul_of_nonneg_right hlo (Rat.le_of_lt pl)
    have b := Rat.mul_le_mul_of_nonneg_left lsm (show 0 ≤ val big by grind)
    have e : pw (-1000) = pw (-500) * pw (-500) := by decide +kernel
    grind
  exact disc_err s0 (by grind) rfl rfl lBC (div_back s0 e1) e2 (div_back s0 e3) e4 e5
end

theorem sq_ge {x y : Rat} (y0 : 0 ≤ y) (h : y * y ≤ x * x) (x0 : 0 ≤ x) : y ≤ x := by
  refine Rat.not_lt.mp fun hlt => ?_
  have a := Rat.mul_le_mul_of_nonneg_left (Rat.le_of_lt hlt) x0
  have b := Rat.mul_lt_mul_of_pos_right hlt (show 0 < y by grind)
  grind
/-- The product of two roots, squared. -/
theorem root2 {s z r t g : Rat} (s0 : 0 < s) (z0 : 0 < z) (r0 : 0 < r) (t0 : 0 < t) (h1 : s * ((1 - ulq) * (1 - ulq)) ≤ r * r) (h2 : r * r ≤ s * ((1 + ulq) * (1 + ulq))) (h3 : z * ((1 - ulq) * (1 - ulq)) ≤ t * t) (h4 : t * t ≤ z * ((1 + ulq) * (1 + ulq)))
    (hg : rabs (g - r * t) ≤ ulp * rabs (r * t)) : rabs (g * g - s * z) ≤ 62 / 10 * (ulp * (s * z)) ∧ 0 < g := by
  have u := u_small
  have rt0 : 0 < r * t := Rat.mul_pos r0 t0
  rw [rabs_of_nonneg (Rat.le_of_lt rt0)] at hg
  have lg := absle.mp hg
  have ur := uu (Rat.le_of_lt rt0)
  have g0 : 0 < g := by grind
  refine ⟨?_, g0⟩
  have s1 := sq_mono (show 0 ≤ r * t * (1 - ulp) from Rat.mul_nonneg (Rat.le_of_lt rt0) (by grind)) (show r * t * (1 - ulp) ≤ g by grind)
  have s2 := sq_mono (Rat.le_of_lt g0) (show g ≤ r * t * (1 + ulp) by grind)
  have q1 : (0 : Rat) ≤ (1 - ulq) * (1 - ulq) := by decide +kernel
  have q2 : (0 : Rat) ≤ (1 + ulq) * (1 + ulq) := by decide +kernel
  have m1 := mul4 (Rat.mul_nonneg (Rat.le_of_lt s0) q1) h1 (Rat.mul_nonneg (Rat.le_of_lt z0) q1) h3 (show 0 ≤ (1 - ulp) * (1 - ulp) from sq_nn _) Rat.le_refl
  have m2 := mul4 (sq_nn r) h2 (sq_nn t) h4 (show 0 ≤ (1 + ulp) * (1 + ulp) from sq_nn _) Rat.le_refl
  have k1 : 1 - 62 / 10 * ulp ≤ (1 - ulq) * (1 - ulq) * ((1 - ulq) * (1 - ulq)) * ((1 - ulp) * (1 - ulp)) := by decide +kernel
  have k2 : (1 + ulq) * (1 + ulq) * ((1 + ulq) * (1 + ulq)) * ((1 + ulp) * (1 + ulp)) ≤ 1 + 62 / 10 * ulp := by decide +kernel
  have sz0 : 0 < s * z := Rat.mul_pos s0 z0
  have k1' := Rat.mul_le_mul_of_nonneg_left k1 (Rat.le_of_lt sz0)
  have k2' := Rat.mul_le_mul_of_nonneg_left k2 (Rat.le_of_lt sz0)
  have e1 : r * t * (1 - ulp) * (r * t * (1 - ulp)) = r * r * (t * t) * ((1 - ulp) * (1 - ulp)) := by grind
  have e2 : r * t * (1 + ulp) * (r * t * (1 + ulp)) = r * r * (t * t) * ((1 + ulp) * (1 + ulp)) := by grind
  rw [e1] at s1
  rw [e2] at s2
  generalize (1 - ulq) * (1 - ulq) = Q1 at *
  generalize (1 + ulq) * (1 + ulq) = Q2 at *
  generalize (1 - ulp) * (1 - ulp) = U1 at *
  generalize (1 + ulp) * (1 + ulp) = U2 at *
  have g1 : s * Q1 * (z * Q1) * U1 = s * z * (Q1 * Q1 * U1) := by grind
  have g2 : s * Q2 * (z * Q2) * U2 = s * z * (Q2 * Q2 * U2) := by grind
  rw [g1] at m1
  rw [g2] at m2
  have l1 := Rat.le_trans (Rat.le_trans k1' m1) s1
  have l2 := Rat.le_trans s2 (Rat.le_trans m2 k2')
  rw [absle]
  generalize s * z = X at *
  constructor <;> grind
/-- A number with another one's sign. -/
theorem sign_fine {g p : Int} (ug : U g) (fg : fin g) (up : U p) : U (signed (neg p) (mag g)) ∧ fin (signed (neg p) (mag g)) ∧ val (signed (neg p) (mag g)) * val (signed (neg p) (mag g)) = val g * val g ∧ 0 ≤ val (signed (neg p) (mag g)) * val p ∧ rabs (val (signed (neg p) (mag g))) = rabs (val g) := by
  obtain ⟨h0, h1⟩ := mag_lt (a := g)
  have e : val (signed (neg p) (mag g)) = if neg p then -vm (mag g) else vm (mag g) := val_signed h0 h1
  refine ⟨U_signed h0 h1, by unfold fin; rw [mag_signed h0 h1]; exact fg, ?_, ?_, ?_⟩
  · rw [e]; unfold val
    split <;> split <;> grind
  · rw [e]; unfold val
    have a := vm_nonneg h0
    have b := vm_nonneg (mag_lt (a := p)).1
    have := Rat.mul_nonneg a b
    split <;> grind
  · rw [rabs_val, mag_signed h0 h1, rabs_val]
section
variable {A B C D big sm d p s z : Int} {m : Rat}
  (hA : Mid A) (hB : Mid B) (hC : Mid C) (hD : Mid D) (m1 : 1 ≤ m) (m2 : m ≤ 2)
  (lA : rabs (val A) ≤ m) (lB : rabs (val B) ≤ m) (lC : rabs (val C) ≤ m) (lD : rabs (val D) ≤ m)
  (b0 : val B ≠ 0) (c0 : val C ≠ 0)
  (hbig : Mid big) (hsm : Mid sm) (hbs : val big * val sm = val B * val C) (hlo : pw (-500) ≤ val big)
  (ud : U d) (fd : fin d) (ed : rabs (val d - (val A - val D)) ≤ ulp * rabs (val A - val D)) (gd : rabs (val d) ≤ 401 / 100)
  (up : U p) (fp : fin p) (vp : val p = val d / 2)
  (us : U s) (fs : fin s) (uz : U z) (fz : fin z) (slo : pw (-500) ≤ val s) (shi : val s ≤ 3) (ps : rabs (val p) ≤ val s) (bs : val big ≤ val s)
  (hz : rabs (val s * val z - (val p * val p + val B * val C)) ≤ 33 / 10 * (ulp * (val p * val p + rabs (val B * val C)))) (zlo : pw (-51) ≤ val z) (zhi : rabs (val z) ≤ 10)
include hA hB hC hD m1 m2 lA lB lC lD b0 c0 hbig hsm hbs hlo ud fd ed gd up fp vp us fs uz fz slo shi ps bs hz zlo zhi
theorem real_words : ∃ tc ts sA sB sD, (∀ F : Int, Ev (fun k => (more_Sqrt.f k s).bind fun q40 => ((more_Sqrt.f k z).bind fun q41 => ((soft_Calc_Mul.f k F q40.1 q41.1).bind fun q42 => ((word_Sign.f q42.1 p).bind fun q43 => ((soft_Calc_Add.f k q42.2 p q43).bind fun q44 => ((soft_Calc_Add.f k q44.2 D q44.1).bind fun q45 => ((soft_Calc_Sub.f k q45.2 B C).bind fun q46 => ((soft_Calc_Div.f k q46.2 big q44.1).bind fun q47 => ((soft_Calc_Mul.f k q47.2 q47.1 sm).bind fun q48 => ((soft_Calc_Sub.f k q48.2 D q48.1).bind fun q49 => ((plane_Hypot.f k C q44.1).bind fun q50 => ((soft_Calc_Div.f k q49.2 q44.1 q50.1).bind fun q51 => ((soft_Calc_Div.f k q51.2 C q50.1).bind fun q52 => (some (q51.1, q52.1, q45.1, q46.1, (0 : Int), q49.1))))))))))))))) (tc, ts, sA, sB, (0 : Int), sD)) ∧
    U tc ∧ U ts ∧ U sA ∧ U sB ∧ U sD ∧ fin tc ∧ fin ts ∧ fin sA ∧ fin sB ∧ fin sD ∧
    rabs (val tc * val tc + val ts * val ts - 1) ≤ 16 * ulp ∧ Near (val tc) (val ts) (val A) (val B) (val C) (val D) (val sA) (val sB) 0 (val sD) (100 * (ulp * m)) := by
  have u := u_small
  have pl := pw_pos (-500)
  have s0 : 0 < val s := by grind
  have zp := pw_pos (-51)
  have z0 : 0 < val z := by grind
  have big1000 : (40 : Rat) ≤ pw 1000 := by decide +kernel
  obtain ⟨ur, fr, r0, r1, r2⟩ := sqrt_rel us fs s0
  obtain ⟨ut, ft, t0, t1, t2⟩ := sqrt_rel uz fz z0
  obtain ⟨r, hr⟩ : ∃ r, r = (sP s).1 := ⟨_, rfl⟩
  obtain ⟨t, ht⟩ : ∃ t, t = (sP z).1 := ⟨_, rfl⟩
  rw [← hr] at ur fr r0 r1 r2
  rw [← ht] at ut ft t0 t1 t2
  have q1 : (1 : Rat) / 4 ≤ (1 - ulq) * (1 - ulq) := by decide +kernel
  have q2 : (1 + ulq) * (1 + ulq) ≤ 4 / 3 := by decide +kernel
  have az := (rabs_self (val z)).1
  have rhi : val r ≤ 2 := sq_ge (x := 2) (y := val r) (Rat.le_of_lt r0) (by
    have := Rat.mul_le_mul_of_nonneg_left q2 (Rat.le_of_lt s0)
    grind) (by decide)
  have thi : val t ≤ 4 := sq_ge (x := 4) (y := val t) (Rat.le_of_lt t0) (by
    have := Rat.mul_le_mul_of_nonneg_left q2 (Rat.le_of_lt z0)
    grind) (by decide)
  have rlo : pw (-251) ≤ val r := sq_ge (Rat.le_of_lt (pw_pos _)) (by
    have a := Rat.mul_le_mul_of_nonneg_left q1 (Rat.le_of_lt s0)
    have e : pw (-251) * pw (-251) = pw (-500) * (1 / 4) := by decide +kernel
    grind) (Rat.le_of_lt r0)
  have tlo : pw (-27) ≤ val t := sq_ge (Rat.le_of_lt (pw_pos _)) (by
    have a := Rat.mul_le_mul_of_nonneg_left q1 (Rat.le_of_lt z0)
    have e : pw (-27) * pw (-27) ≤ pw (-51) * (1 / 4) := by decide +kernel
    grind) (Rat.le_of_lt t0)
  have rt0 : 0 < val r * val t := Rat.mul_pos r0 t0
  have art : rabs (val r * val t) = val r * val t := rabs_of_nonneg (Rat.le_of_lt rt0)
  have rtlo : pw (-278) ≤ val r * val t := by
    have a := Rat.mul_le_mul_of_nonneg_right rlo (Rat.le_of_lt (pw_pos (-27)))
    have b := Rat.mul_le_mul_of_nonneg_left tlo (Rat.le_of_lt r0)
    have e : pw (-251) * pw (-27) = pw (-278) := by decide +kernel
    grind
  have rthi : val r * val t ≤ 8 := by
    have a := Rat.mul_le_mul_of_nonneg_right rhi (Rat.le_of_lt t0)
    grind
  obtain ⟨fg, eg⟩ := mul_rel ur ut fr ft ⟨.inr (by rw [art]; exact Rat.le_trans (pw_mono (by decide)) rtlo), by rw [art]; grind⟩
  have ug : U (mv r t) := mv_U ur ut
  obtain ⟨gg, g0⟩ := root2 s0 z0 r0 t0 r1 r2 t1 t2 eg
  obtain ⟨g, hg⟩ : ∃ g, g = mv r t := ⟨_, rfl⟩
  rw [← hg] at fg eg ug gg g0
  have glo : pw (-279) ≤ val g := by
    have n := near_big eg (by rw [art]; exact rtlo)
    rw [rabs_of_nonneg (Rat.le_of_lt g0)] at n
    have e : pw (-279) ≤ pw (-278) * (999 / 1000) := by decide +kernel
    grind
  have ghi : val g ≤ 9 := by
    have n := near_le eg (by rw [art]; exact rthi)
    rw [rabs_of_nonneg (Rat.le_of_lt g0)] at n
    grind
  obtain ⟨uw, fw, ww, wp, aw⟩ := sign_fine ug fg up
  obtain ⟨w, hw⟩ : ∃ w, w = signed (neg p) (mag g) := ⟨_, rfl⟩
  rw [← hw] at uw fw ww wp aw
  rw [rabs_of_nonneg (Rat.le_of_lt g0)] at aw
  have p3 : rabs (val p) ≤ 3 := by grind
  have k1 : rabs (val p + val w) ≤ 12 := by
    have := rabs_add (val p) (val w)
    grind
  obtain ⟨fζ, eζ⟩ := add_rel up uw fp fw (by grind)
  have uζ : U (av p w) := av_U up uw
  obtain ⟨ζ, hζ⟩ : ∃ ζ, ζ = av p w := ⟨_, rfl⟩
  rw [← hζ] at fζ eζ uζ
  have ζlo : pw (-279) ≤ rabs (val p + val w) := by
    have e : val g ≤ rabs (val p + val w) := by
      rw [← aw]
      unfold rabs
      by_cases c1 : val w < 0
      · have : val p ≤ 0 := by
          refine Rat.not_lt.mp fun h => ?_
          have := Rat.mul_lt_mul_of_pos_right c1 h
          grind
        rw [if_pos c1, if_pos (by grind)]; grind
      · by_cases c2 : val w = 0
        · rw [c2, rabs_zero] at aw; grind
        · have : 0 ≤ val p := by
            refine Rat.not_lt.mp fun h => ?_
            have := Rat.mul_lt_mul_of_pos_left h (show 0 < val w by grind)
            grind
          rw [if_neg c1, if_neg (by grind)]; grind
    grind
  have ζl := near_big eζ ζlo
  have ζl2 : pw (-280) ≤ rabs (val ζ) := by
    have e : pw (-280) ≤ pw (-279) * (999 / 1000) := by decide +kernel
    grind
  have ζh := near_le eζ k1
  have ζn : val ζ ≠ 0 := by
    intro h
    rw [h, rabs_zero] at ζl2
    have := pw_pos (-280)
    grind
  obtain ⟨RB1, RB2, RB3, RB4⟩ := rho_bound (A := val A) (B := val B) (C := val C) (D := val D) (m := m) (dh := val d) (p := val p) (s := val s) (bg := val big) (sm := val sm) (z1 := val z) (g := val g) (w := val w) (ζ := val p + val w) (z := val ζ) lA lB lC lD ed vp s0 ps hbs hz z0 gg (Rat.le_of_lt g0) ww wp rfl eζ
  have z13 : rabs (val ζ) ≤ 13 := by grind
  have zz : rabs (val ζ) * rabs (val ζ) = val ζ * val ζ := rabs_sq _
  -- the entries
  have D2 := hD.2.2.2
  have k2 : rabs (val D + val ζ) ≤ 16 := by
    have := rabs_add (val D) (val ζ)
    grind
  obtain ⟨fA, eA⟩ := add_rel hD.1 uζ hD.2.1 fζ (by grind)
  have k3 : rabs (val B - val C) ≤ 4 := by
    have := rabs_add (val B) (-val C)
    rw [rabs_neg, show val B + -val C = val B - val C by grind] at this
    have := hB.2.2.2; have := hC.2.2.2
    grind
  obtain ⟨fB, eB⟩ := sub_rel hB.1 hC.1 hB.2.1 hC.2.1 (by grind)
  -- the other root
  have ab : rabs (val big) = val big := rabs_of_nonneg (by grind)
  have k4 : rabs (val big / val ζ) ≤ pw 300 := rdiv_le' ζn (by
    have a := Rat.mul_le_mul_of_nonneg_left ζl2 (Rat.le_of_lt (pw_pos 300))
    have e : (3 : Rat) ≤ pw 300 * pw (-280) := by decide +kernel
    grind)
  have l4 : pw (-504) ≤ rabs (val big / val ζ) := rdiv_ge' ζn (by
    have a := Rat.mul_le_mul_of_nonneg_left z13 (Rat.le_of_lt (pw_pos (-504)))
    have e : pw (-504) * 13 ≤ pw (-500) := by decide +kernel
    grind)
  obtain ⟨f5, e5⟩ := div_rel hbig.1 uζ hbig.2.1 fζ ζn ⟨.inr (Rat.le_trans (pw_mono (by decide)) l4), Rat.le_trans k4 (pw_mono (by decide))⟩
  have u5 : U (dP big ζ).1 := (dP_R hbig.1 uζ).rangeU
  obtain ⟨y, hy⟩ : ∃ y, y = val B * val C / val ζ := ⟨_, rfl⟩
  have yz : y * val ζ = val B * val C := by rw [hy, Rat.div_mul_cancel ζn]
  have ym : rabs y ≤ 205 / 100 * m := by rw [hy]; exact rdiv_le' ζn (by grind)
  have sm0 : val sm ≠ 0 := fun h => by
    rw [h, show val big * 0 = 0 by grind] at hbs
    rcases Rat.mul_eq_zero.mp hbs.symm with h | h
    · exact b0 h
    · exact c0 h
  have lsm : pw (-500) ≤ rabs (val sm) := by
    rcases hsm.2.2.1 with h | h
    · exact absurd h sm0
    · exact h
  have ey : val big / val ζ * val sm = y := by
    have : (val big / val ζ * val sm) * val ζ = y * val ζ := by
      rw [yz, ← hbs]
      have := Rat.div_mul_cancel (a := val big) ζn
      grind
    have h : (val big / val ζ * val sm - y) * val ζ = 0 := by grind
    rcases Rat.mul_eq_zero.mp h with h | h
    · grind
    · exact absurd h ζn
  have e6 : rabs (val (dP big ζ).1 * val sm - y) ≤ ulp * rabs y := by
    rw [← ey, show val (dP big ζ).1 * val sm - val big / val ζ * val sm = (val (dP big ζ).1 - val big / val ζ) * val sm by grind, rabs_mul, rabs_mul]
    have := Rat.mul_le_mul_of_nonneg_right e5 (rabs_nonneg (val sm))
    grind
  have ylo : pw (-1004) ≤ rabs y := by
    rw [hy]
    refine rdiv_ge' ζn ?_
    have a := Rat.mul_le_mul_of_nonneg_left z13 (Rat.le_of_lt (pw_pos (-1004)))
    have e : pw (-1004) * 13 ≤ pw (-500) * pw (-500) := by decide +kernel
    have lb : pw (-500) ≤ rabs (val B) := by
      rcases hB.2.2.1 with h | h
      · exact absurd h b0
      · exact h
    have lc : pw (-500) ≤ rabs (val C) := by
      rcases hC.2.2.1 with h | h
      · exact absurd h c0
      · exact h
    rw [rabs_mul]
    have c1 := Rat.mul_le_mul_of_nonneg_right lb (Rat.le_of_lt pl)
    have c2 := Rat.mul_le_mul_of_nonneg_left lc (rabs_nonneg (val B))
    grind
  have y5 : rabs y ≤ 5 := by grind
  have l6 := near_big e6 ylo
  have h6 := near_le e6 y5
  have l6' : pw (-1022) ≤ rabs (val (dP big ζ).1 * val sm) := by
    have e : pw (-1022) ≤ pw (-1004) * (999 / 1000) := by decide +kernel
    grind
  obtain ⟨f7, e7⟩ := mul_rel u5 hsm.1 f5 hsm.2.1 ⟨.inr l6', by grind⟩
  have u7 : U (mv (dP big ζ).1 sm) := mv_U u5 hsm.1
  have h7 := near_le e7 h6
  have k8 : rabs (val D - val (mv (dP big ζ).1 sm)) ≤ 8 := by
    have := rabs_add (val D) (-val (mv (dP big ζ).1 sm))
    rw [rabs_neg, show val D + -val (mv (dP big ζ).1 sm) = val D - val (mv (dP big ζ).1 sm) by grind] at this
    grind
  obtain ⟨f8, e8⟩ := sub_rel hD.1 u7 hD.2.1 f7 (by grind)
  have sDe : rabs (val (av D (flip (mv (dP big ζ).1 sm))) - (val D - y)) ≤ 75 / 10 * (ulp * m) := by
    have uy := uul ym
    have um := uu (show 0 ≤ m by grind)
    have uy0 := uu (rabs_nonneg y)
    have e1 : ulp * (205 / 100 * m) = 205 / 100 * (ulp * m) := by grind
    rw [e1] at uy
    have e6' := absle.mp e6
    have b6 : rabs (val (dP big ζ).1 * val sm) ≤ rabs y + ulp * rabs y := by
      have := rabs_add (val (dP big ζ).1 * val sm - y) y
      rw [show val (dP big ζ).1 * val sm - y + y = val (dP big ζ).1 * val sm by grind] at this
      grind
    have ub6 := uul b6
    have e2 : ulp * (rabs y + ulp * rabs y) = ulp * rabs y + ulp * (ulp * rabs y) := by grind
    have uuy := uu uy0.1
    have e7' := absle.mp e7
    have q : rabs (val (mv (dP big ζ).1 sm) - y) ≤ 42 / 10 * (ulp * m) := by rw [absle]; grind
    have b8 : rabs (val D - val (mv (dP big ζ).1 sm)) ≤ 31 / 10 * m := by
      have t1 := rabs_add (val D - y) (-(val (mv (dP big ζ).1 sm) - y))
      rw [rabs_neg, show val D - y + -(val (mv (dP big ζ).1 sm) - y) = val D - val (mv (dP big ζ).1 sm) by grind] at t1
      have t2 := rabs_add (val D) (-y)
      rw [rabs_neg, show val D + -y = val D - y by grind] at t2
      grind
    have ub8 := uul b8
    have e3 : ulp * (31 / 10 * m) = 31 / 10 * (ulp * m) := by grind
    have e8' := absle.mp e8
    have q' := absle.mp q
    rw [absle]; grind
  -- the turn
  have z900 : pw (-900) ≤ rabs (val ζ) := Rat.le_trans (pw_mono (by decide)) ζl2
  obtain ⟨h, Fh, evh, uh, fh, h0, hh1, hh2⟩ := hyp_rel hC.1 uζ hC.2.1 fζ (.inr z900) (Rat.le_trans hC.2.2.2 (by decide +kernel)) (Rat.le_trans z13 (by decide +kernel))
  have c6 : (1 : Rat) / 4 ≤ (1 - 6 * ulp) * (1 - 6 * ulp) := by decide +kernel
  have d6 : (1 + 6 * ulp) * (1 + 6 * ulp) ≤ 11 / 10 := by decide +kernel
  have zp2 : 0 < val ζ * val ζ := by
    rw [← zz]; exact Rat.mul_pos (rabs_pos ζn) (rabs_pos ζn)
  have cn : 0 ≤ val C * val C := sq_nn _
  have CC : rabs (val C) * rabs (val C) = val C * val C := rabs_sq _
  have H0 : 0 ≤ val C * val C + val ζ * val ζ := by grind
  have m6 := Rat.mul_le_mul_of_nonneg_left c6 H0
  have n6 := Rat.mul_le_mul_of_nonneg_left d6 H0
  have hz2 : rabs (val ζ) ≤ 2 * val h := sq_ge (rabs_nonneg _) (by rw [zz]; grind) (by grind)
  have hc2 : rabs (val C) ≤ 2 * val h := sq_ge (rabs_nonneg _) (by rw [CC]; grind) (by grind)
  have hpos : 0 < val h := by
    have := rabs_pos ζn
    grind
  have hhi : val h ≤ 15 := sq_ge (x := 15) (y := val h) h0 (by
    have a1 := sq_mono (rabs_nonneg _) z13
    have a2 := sq_mono (rabs_nonneg _) hC.2.2.2
    rw [zz] at a1
    rw [CC] at a2
    grind) (by decide)
  have hne : val h ≠ 0 := by grind
  have x1 : rabs (val ζ / val h) ≤ 2 := rdiv_le hpos hz2
  have x2 : rabs (val C / val h) ≤ 2 := rdiv_le hpos hc2
  have y1 : pw (-284) ≤ rabs (val ζ / val h) := rdiv_ge hpos (by
    have a := Rat.mul_le_mul_of_nonneg_left hhi (Rat.le_of_lt (pw_pos (-284)))
    have e : pw (-284) * 15 ≤ pw (-280) := by decide +kernel
    grind)
  have lc : pw (-500) ≤ rabs (val C) := by
    rcases hC.2.2.1 with h | h
    · exact absurd h c0
    · exact h
  have y2 : pw (-504) ≤ rabs (val C / val h) := rdiv_ge hpos (by
    have a := Rat.mul_le_mul_of_nonneg_left hhi (Rat.le_of_lt (pw_pos (-504)))
    have e : pw (-504) * 15 ≤ pw (-500) := by decide +kernel
    grind)
  obtain ⟨fc, ec⟩ := div_rel uζ uh fζ fh hne ⟨.inr (Rat.le_trans (pw_mono (by decide)) y1), by grind⟩
  obtain ⟨fn, en⟩ := div_rel hC.1 uh hC.2.1 fh hne ⟨.inr (Rat.le_trans (pw_mono (by decide)) y2), by grind⟩
  have uc : U (dP ζ h).1 := (dP_R uζ uh).rangeU
  have un : U (dP C h).1 := (dP_R hC.1 uh).rangeU
  obtain ⟨R0, R1, R2, R3, R4⟩ := real_near (A := val A) (B := val B) (C := val C) (D := val D) (m := m) (ρ := val ζ * val ζ - (val A - val D) * val ζ - val B * val C) (z := val ζ) (h := val h) (c := val (dP ζ h).1) (n := val (dP C h).1) (sA := val (av D ζ)) (sB := val (av B (flip C))) (sD := val (av D (flip (mv (dP big ζ).1 sm)))) (y := y)
    lA lB lC lD rfl RB1 RB2 RB3 yz ym (by rw [show val ζ * val ζ + val C * val C = val C * val C + val ζ * val ζ by grind]; exact hh1) (by rw [show val ζ * val ζ + val C * val C = val C * val C + val ζ * val ζ by grind]; exact hh2) (div_back hpos ec) (div_back hpos en) eA eB sDe
  refine ⟨(dP ζ h).1, (dP C h).1, av D ζ, av B (flip C), av D (flip (mv (dP big ζ).1 sm)), fun F => ?_, uc, un, av_U hD.1 uζ, av_U hB.1 (U_flip hC.1), av_U hD.1 (U_flip u7), fc, fn, fA, fB, f8, R0, ?_, ?_, ?_, ?_⟩
  · have es := sP_ev us
    have ez := sP_ev uz
    rw [show sP s = (r, (sP s).2) by rw [hr]] at es
    rw [show sP z = (t, (sP z).2) by rw [ht]] at ez
    have eg : Ev (fun k => soft_Calc_Mul.f k F r t) (g, (cM F r t).2) := by rw [hg]; exact cM_ev ur ut
    have eζ' : ∀ F, Ev (fun k => soft_Calc_Add.f k F p w) (ζ, (cA F p w).2) := fun F => by rw [hζ]; exact cA_ev up uw
    have ew : word_Sign.f g p = some w := by rw [hw]; exact word_Sign_eq ug up
    exact Ev.bind es (Ev.bind ez (Ev.bind eg (Ev.call ew (Ev.bind (eζ' _) (Ev.bind (cA_ev hD.1 uζ) (Ev.bind (cS_ev hB.1 hC.1) (Ev.bind (cD_ev hbig.1 uζ) (Ev.bind (cM_ev u5 hsm.1) (Ev.bind (cS_ev hD.1 u7) (Ev.bind evh (Ev.bind (cD_ev uζ uh) (Ev.bind (cD_ev hC.1 uh) (Ev.now _)))))))))))))
  · rw [show val (dP ζ h).1 * (val (dP ζ h).1 * val A + val (dP C h).1 * val C) + val (dP C h).1 * (val (dP ζ h).1 * val B + val (dP C h).1 * val D) - val (av D ζ) = val (dP ζ h).1 * val (dP ζ h).1 * val A + val (dP ζ h).1 * val (dP C h).1 * (val B + val C) + val (dP C h).1 * val (dP C h).1 * val D - val (av D ζ) by grind]
    exact R1
  · rw [show val (dP ζ h).1 * (val (dP ζ h).1 * val B + val (dP C h).1 * val D) - val (dP C h).1 * (val (dP ζ h).1 * val A + val (dP C h).1 * val C) - val (av B (flip C)) = val (dP ζ h).1 * val (dP ζ h).1 * val B - val (dP ζ h).1 * val (dP C h).1 * (val A - val D) - val (dP C h).1 * val (dP C h).1 * val C - val (av B (flip C)) by grind]
    exact R2
  · rw [show val (dP ζ h).1 * (val (dP ζ h).1 * val C - val (dP C h).1 * val A) + val (dP C h).1 * (val (dP ζ h).1 * val D - val (dP C h).1 * val B) - 0 = val (dP ζ h).1 * val (dP ζ h).1 * val C - val (dP ζ h).1 * val (dP C h).1 * (val A - val D) - val (dP C h).1 * val (dP C h).1 * val B by grind]
    exact R3
  · rw [show val (dP ζ h).1 * (val (dP ζ h).1 * val D - val (dP C h).1 * val B) - val (dP C h).1 * (val (dP ζ h).1 * val C - val (dP C h).1 * val A) - val (av D (flip (mv (dP big ζ).1 sm))) = val (dP ζ h).1 * val (dP ζ h).1 * val D - val (dP ζ h).1 * val (dP C h).1 * (val B + val C) + val (dP C h).1 * val (dP C h).1 * val A - val (av D (flip (mv (dP big ζ).1 sm))) by grind]
    exact R4
end

section
variable {A B C D d p : Int} {m : Rat}
  (hA : Mid A) (hB : Mid B) (hC : Mid C) (hD : Mid D) (m1 : 1 ≤ m) (m2 : m ≤ 2)
  (lA : rabs (val A) ≤ m) (lB : rabs (val B) ≤ m) (lC : rabs (val C) ≤ m) (lD : rabs (val D) ≤ m)
  (ud : U d) (fd : fin d) (ed : rabs (val d - (val A - val D)) ≤ ulp * rabs (val A - val D)) (ld : val d = 0 ∨ pw (-553) ≤ rabs (val d)) (gd : rabs (val d) ≤ 401 / 100)
  (up : U p) (fp : fin p) (vp : val p = val d / 2) (hne : val d ≠ 0 ∨ val B + val C ≠ 0)
include hA hB hC hD m1 m2 lA lB lC lD ud fd ed ld gd up fp vp hne
theorem turn_words : ∃ cs n : Int, U cs ∧ U n ∧ fin cs ∧ fin n ∧
    rabs (val cs * val cs + val n * val n - 1) ≤ 17 * ulp ∧ rabs (val cs) ≤ 1001 / 1000 ∧ rabs (val n) ≤ 1001 / 1000 ∧ rabs (val cs * val n) ≤ 501 / 1000 ∧
    rabs ((val cs * val cs - val n * val n) * (val A - val D) + 2 * (val cs * val n) * (val B + val C)) ≤ 41 * (ulp * m) ∧
    ∀ (F : Int) r, (∀ F' : Int, Ev (fun k => block_standard.j3 k cs n A B C D F') r) → Ev (fun k => (soft_Calc_Add.f k F B C).bind fun q28 => ((plane_Hypot.f k q28.1 d).bind fun q29 => ((word_Abs.f q28.1).bind fun q30 => ((soft_Calc_Div.f k q28.2 q30 q29.1).bind fun q31 => ((soft_Calc_Add.f k q31.2 4607182418800017408 q31.1).bind fun q32 => ((soft_Calc_Mul.f k q32.2 4602678819172646912 q32.1).bind fun q33 => ((more_Sqrt.f k q33.1).bind fun q34 => ((soft_Calc_Mul.f k q33.2 q29.1 q34.1).bind fun q35 => ((soft_Calc_Div.f k q35.2 p q35.1).bind fun q36 => ((word_Neg.f q28.1).bind fun q37 => (if q37 = true then (block_standard.j3 k q34.1 q36.1 A B C D q36.2) else ((word_Flip.f q36.1).bind fun q39 => (block_standard.j3 k q34.1 q39 A B C D q36.2))))))))))))) r := by
  have u := u_small
  have big1000 : (40 : Rat) ≤ pw 1000 := by decide +kernel
  obtain ⟨uσ, fσ, eσ, lσ, gσ⟩ := mid_add hB hC
  obtain ⟨σ, hσ⟩ : ∃ σ, σ = av B C := ⟨_, rfl⟩
  rw [← hσ] at uσ fσ eσ lσ gσ
  have ne2 : pw (-553) ≤ rabs (val σ) ∨ pw (-553) ≤ rabs (val d) := by
    rcases hne with h | h
    · right
      rcases ld with h2 | h2
      · exact absurd h2 h
      · exact h2
    · left
      rcases lσ with h2 | h2
      · exact absurd ((near_nz eσ).mp h2) h
      · exact h2
  have l900 : pw (-900) ≤ pw (-553) := pw_mono (by decide)
  have h900 : (401 : Rat) / 100 ≤ pw 900 := by decide +kernel
  obtain ⟨τ, Fh, evh, uτ, fτ, τ0, t1, t2⟩ := hyp_rel uσ ud fσ fd (by
    rcases ne2 with h | h
    · exact .inl (Rat.le_trans l900 h)
    · exact .inr (Rat.le_trans l900 h)) (Rat.le_trans gσ h900) (Rat.le_trans gd h900)
  have c6 : (1 : Rat) / 4 ≤ (1 - 6 * ulp) * (1 - 6 * ulp) := by decide +kernel
  have d6 : (1 + 6 * ulp) * (1 + 6 * ulp) ≤ 11 / 10 := by decide +kernel
  have σσ : rabs (val σ) * rabs (val σ) = val σ * val σ := rabs_sq _
  have dd : rabs (val d) * rabs (val d) = val d * val d := rabs_sq _
  have s0 := sq_nn (val σ)
  have d0 := sq_nn (val d)
  have m6 := Rat.mul_le_mul_of_nonneg_left c6 (show 0 ≤ val σ * val σ + val d * val d by grind)
  have n6 := Rat.mul_le_mul_of_nonneg_left d6 (show 0 ≤ val σ * val σ + val d * val d by grind)
  have hs2 : rabs (val σ) ≤ 2 * val τ := sq_ge (rabs_nonneg _) (by rw [σσ]; grind) (by grind)
  have hd2 : rabs (val d) ≤ 2 * val τ := sq_ge (rabs_nonneg _) (by rw [dd]; grind) (by grind)
  have p553 := pw_pos (-553)
  have τlo : pw (-554) ≤ val τ := by
    have e : pw (-553) = 2 * pw (-554) := by decide +kernel
    rcases ne2 with h | h <;> grind
  have p554 := pw_pos (-554)
  have τp : 0 < val τ := by grind
  have τne : val τ ≠ 0 := by grind
  have τhi : val τ ≤ 7 := sq_ge (x := 7) (y := val τ) τ0 (by
    have a1 := sq_mono (rabs_nonneg _) gσ
    have a2 := sq_mono (rabs_nonneg _) gd
    rw [σσ] at a1
    rw [dd] at a2
    grind) (by decide)
  -- the sum by the root
  obtain ⟨uaσ, maσ, naσ, vaσ⟩ := abs_fine (a := σ)
  have faσ : fin (mag σ) := by unfold fin; rw [maσ]; exact fσ
  have k1 : rabs (val (mag σ) / val τ) ≤ 2 := rdiv_le τp (by rw [vaσ, rabs_of_nonneg (rabs_nonneg _)]; exact hs2)
  have o1 : Ok (val (mag σ) / val τ) := by
    refine ⟨?_, by grind⟩
    rcases lσ with h | h
    · left; rw [vaσ, h, rabs_zero]; grind
    · right
      have : pw (-1022) ≤ pw (-556) := pw_mono (by decide)
      refine Rat.le_trans this (rdiv_ge τp ?_)
      rw [vaσ, rabs_of_nonneg (rabs_nonneg _)]
      have a := Rat.mul_le_mul_of_nonneg_left τhi (Rat.le_of_lt (pw_pos (-556)))
      have e : pw (-556) * 7 ≤ pw (-553) := by decide +kernel
      grind
  obtain ⟨f1, e1⟩ := div_rel uaσ uτ faσ fτ τne o1
  have u1 : U (dP (mag σ) τ).1 := (dP_R uaσ uτ).rangeU
  have h1 := near_le e1 k1
  obtain ⟨W, hW⟩ : ∃ W, W = val (mag σ) / val τ := ⟨_, rfl⟩
  rw [← hW] at e1 k1
  have Wτ : W * val τ = rabs (val σ) := by rw [hW, Rat.div_mul_cancel τne, vaσ]
  have W0 : 0 ≤ W := by
    refine Rat.not_lt.mp fun h => ?_
    have := Rat.mul_lt_mul_of_pos_right h τp
    have := rabs_nonneg (val σ)
    grind
  -- one more
  have l1 := absle.mp e1
  have uW := uu (rabs_nonneg W)
  rw [rabs_of_nonneg W0] at uW l1 k1
  have k2 : rabs (1 + val (dP (mag σ) τ).1) ≤ 4 := by rw [absle]; grind
  obtain ⟨f2, e2⟩ := add_rel U_one u1 fin_one f1 (by rw [val_one]; grind)
  rw [val_one] at e2
  have u2 : U (av 4607182418800017408 (dP (mag σ) τ).1) := av_U U_one u1
  have l2 : 999 / 1000 * (999 / 1000) ≤ rabs (val (av 4607182418800017408 (dP (mag σ) τ).1)) := near_big e2 (by rw [rabs_of_nonneg (by grind)]; grind)
  have ge1 : 999 / 1000 ≤ 1 + val (dP (mag σ) τ).1 := by grind
  have k2' := near_le e2 k2
  have p2 : 0 < val (av 4607182418800017408 (dP (mag σ) τ).1) := by
    have := absle.mp e2
    rw [rabs_of_nonneg (show 0 ≤ 1 + val (dP (mag σ) τ).1 by grind)] at this
    have := uu (show 0 ≤ 1 + val (dP (mag σ) τ).1 by grind)
    grind
  have s1020 : pw (-1020) ≤ 1 / 2 := by decide +kernel
  obtain ⟨f3, v3⟩ := half_exact u2 f2 (.inr (by grind))
  have u3 : U (mv 4602678819172646912 (av 4607182418800017408 (dP (mag σ) τ).1)) := mv_U U_half u2
  -- the cosine
  obtain ⟨uc, fc, cp, c1, c2⟩ := sqrt_rel u3 f3 (by rw [v3]; grind)
  rw [v3] at c1 c2
  obtain ⟨cs, hcs⟩ : ∃ cs, cs = (sP (mv 4602678819172646912 (av 4607182418800017408 (dP (mag σ) τ).1))).1 := ⟨_, rfl⟩
  rw [← hcs] at uc fc cp c1 c2
  obtain ⟨w2, hw2⟩ : ∃ w2, w2 = val (av 4607182418800017408 (dP (mag σ) τ).1) := ⟨_, rfl⟩
  rw [← hw2] at e2 l2 k2' p2 c1 c2
  rw [rabs_of_nonneg (Rat.le_of_lt p2)] at l2 k2'
  have hcc : rabs (val cs * val cs - w2 / 2) ≤ 21 / 10 * (ulp * rabs (w2 / 2)) := by
    rw [rabs_of_nonneg (show 0 ≤ w2 / 2 by grind), absle]
    have k1 : 1 - 21 / 10 * ulp ≤ (1 - ulq) * (1 - ulq) := by decide +kernel
    have k2 : (1 + ulq) * (1 + ulq) ≤ 1 + 21 / 10 * ulp := by decide +kernel
    have a1 := Rat.mul_le_mul_of_nonneg_left k1 (show 0 ≤ w2 / 2 by grind)
    have a2 := Rat.mul_le_mul_of_nonneg_left k2 (show 0 ≤ w2 / 2 by grind)
    grind
  have clo : 1 / 2 ≤ val cs := sq_ge (by grind) (by
    have k1 : (999 : Rat) / 1000 ≤ (1 - ulq) * (1 - ulq) := by decide +kernel
    have a1 := Rat.mul_le_mul_of_nonneg_left k1 (show 0 ≤ w2 / 2 by grind)
    grind) (Rat.le_of_lt cp)
  have chi : val cs ≤ 3 := sq_ge (x := 3) (y := val cs) (Rat.le_of_lt cp) (by
    have k1 : (1 + ulq) * (1 + ulq) ≤ (2 : Rat) := by decide +kernel
    have a1 := Rat.mul_le_mul_of_nonneg_left k1 (show 0 ≤ w2 / 2 by grind)
    grind) (by decide)
  -- the root by the cosine
  have tc0 : 0 < val τ * val cs := Rat.mul_pos τp cp
  have atc : rabs (val τ * val cs) = val τ * val cs := rabs_of_nonneg (Rat.le_of_lt tc0)
  have tclo : pw (-555) ≤ val τ * val cs := by
    have a := Rat.mul_le_mul_of_nonneg_right τlo (Rat.le_of_lt cp)
    have b := Rat.mul_le_mul_of_nonneg_left clo (Rat.le_of_lt p554)
    have e : pw (-554) * (1 / 2) = pw (-555) := by decide +kernel
    grind
  have tchi : val τ * val cs ≤ 21 := by
    have a := Rat.mul_le_mul_of_nonneg_right τhi (Rat.le_of_lt cp)
    grind
  obtain ⟨f4, e4⟩ := mul_rel uτ uc fτ fc ⟨.inr (by rw [atc]; exact Rat.le_trans (pw_mono (by decide)) tclo), by rw [atc]; grind⟩
  have u4 : U (mv τ cs) := mv_U uτ uc
  obtain ⟨tc, htc⟩ : ∃ tc, tc = mv τ cs := ⟨_, rfl⟩
  rw [← htc] at f4 e4 u4
  have tcl := absle.mp e4
  rw [atc] at tcl
  have utc := uu (Rat.le_of_lt tc0)
  have tcp : 0 < val tc := by grind
  have tclo2 : pw (-556) ≤ val tc := by
    have e : pw (-555) = 2 * pw (-556) := by decide +kernel
    grind
  have tchi2 : val tc ≤ 22 := by grind
  have tcne : val tc ≠ 0 := by grind
  -- the sine
  have rp : rabs (val p) = rabs (val d) / 2 := by
    rw [vp]; unfold rabs; split <;> split <;> grind
  have o5 : Ok (val p / val tc) := by
    constructor
    · rcases ld with h | h
      · left; rw [vp, h]; grind
      · right
        have : pw (-1022) ≤ pw (-560) := pw_mono (by decide)
        refine Rat.le_trans this (rdiv_ge tcp ?_)
        have a := Rat.mul_le_mul_of_nonneg_left tchi2 (Rat.le_of_lt (pw_pos (-560)))
        have e : pw (-560) * 22 ≤ pw (-553) / 2 := by decide +kernel
        grind
    · refine Rat.le_trans (rdiv_le (k := pw 600) tcp ?_) (pw_mono (by decide))
      have a := Rat.mul_le_mul_of_nonneg_left tclo2 (Rat.le_of_lt (pw_pos 600))
      have e : (401 : Rat) / 100 ≤ pw 600 * pw (-556) := by decide +kernel
      have := rabs_nonneg (val d)
      grind
  obtain ⟨f5, e5⟩ := div_rel up u4 fp f4 tcne o5
  have u5 : U (dP p tc).1 := (dP_R up u4).rangeU
  have e5' := div_back tcp e5
  rw [vp] at e5'
  obtain ⟨n0, hn0⟩ : ∃ n0, n0 = (dP p tc).1 := ⟨_, rfl⟩
  rw [← hn0] at f5 e5' u5
  -- its sign
  obtain ⟨e, n, hee, hes, hn, un, fn, hev⟩ : ∃ (e : Rat) (n : Int), e * e = 1 ∧ e * val σ = rabs (val σ) ∧ val n = -(e * val n0) ∧ U n ∧ fin n ∧ ∀ (F : Int) r, Ev (fun k => block_standard.j3 k cs n A B C D F) r → Ev (fun k => (if neg σ = true then (block_standard.j3 k cs n0 A B C D F) else ((word_Flip.f n0).bind fun q39 => (block_standard.j3 k cs q39 A B C D F)))) r := by
    have pr : rabs (val σ) = vm (mag σ) := rabs_val σ
    by_cases c : neg σ = true
    · refine ⟨-1, n0, by grind, ?_, by grind, u5, f5, fun F r h => Ev.pos c h⟩
      rw [pr]; unfold val; rw [if_pos c]; grind
    · refine ⟨1, flip n0, by grind, ?_, ?_, U_flip u5, by unfold fin; rw [mag_flip u5]; exact f5, fun F r h => Ev.neg c (Ev.call (word_Flip_eq u5) h)⟩
      · rw [pr]; unfold val; rw [if_neg c]; grind
      · rw [val_flip u5]; grind
  have Y : val d / val τ * val τ = val d := Rat.div_mul_cancel τne
  obtain ⟨T1, T2, T3, T4, T5⟩ := turn_err (A := val A) (B := val B) (C := val C) (D := val D) (m := m) (sg := val σ) (dh := val d) (τ := val τ) (w1 := val (dP (mag σ) τ).1) (w2 := w2) (c := val cs) (tc := val tc) (n0 := val n0) (n := val n) (e := e) (W := W) (Y := val d / val τ)
    lA lB lC lD eσ ed τp t1 t2 Wτ Y e1 e2 hcc cp e4 e5' hes hee hn
  refine ⟨cs, n, uc, un, fc, fn, T1, T2, T3, T4, T5, fun F r hr => ?_⟩
  have evσ : Ev (fun k => soft_Calc_Add.f k F B C) (σ, (cA F B C).2) := by rw [hσ]; exact cA_ev hB.1 hC.1
  have evc := sP_ev u3
  rw [show sP (mv 4602678819172646912 (av 4607182418800017408 (dP (mag σ) τ).1)) = (cs, (sP (mv 4602678819172646912 (av 4607182418800017408 (dP (mag σ) τ).1))).2) by rw [hcs]] at evc
  have evt : ∀ F, Ev (fun k => soft_Calc_Mul.f k F τ cs) (tc, (cM F τ cs).2) := fun F => by rw [htc]; exact cM_ev uτ uc
  have evn : ∀ F, Ev (fun k => soft_Calc_Div.f k F p tc) (n0, (cD F p tc).2) := fun F => by rw [hn0]; exact cD_ev up u4
  exact Ev.bind evσ (Ev.bind evh (Ev.call (word_Abs_mag uσ) (Ev.bind (cD_ev uaσ uτ) (Ev.bind (cA_ev U_one u1) (Ev.bind (cM_ev U_half u2) (Ev.bind evc (Ev.bind (evt _) (Ev.bind (evn _) (Ev.call (word_Neg_neg uσ) (hev _ r (hr _)))))))))))
end

/-- Two numbers, turned, reckoned. -/
theorem of_word {c n x y : Int} {X Y μ K : Rat} (uc : U c) (un : U n) (ux : U x) (uy : U y) (fc : fin c) (fn : fin n) (fx : fin x) (fy : fin y) (μ1 : 1 / 4 ≤ μ) (μ2 : μ ≤ 4) (hc : rabs (val c) ≤ 1001 / 1000) (hn : rabs (val n) ≤ 1001 / 1000) (hx : rabs (val x) ≤ 21 / 10 * μ) (hy : rabs (val y) ≤ 21 / 10 * μ)
    (hxX : rabs (val x - X) ≤ K * (ulp * μ)) (hyY : rabs (val y - Y) ≤ K * (ulp * μ)) (K0 : 0 ≤ K) :
    ∃ r1 r2 : Int, U r1 ∧ U r2 ∧ fin r1 ∧ fin r2 ∧ rabs (val r1 - (val c * X + val n * Y)) ≤ (2002 / 1000 * K + 86 / 10) * (ulp * μ) ∧ rabs (val r2 - (val c * Y - val n * X)) ≤ (2002 / 1000 * K + 86 / 10) * (ulp * μ) ∧
      ∀ F : Int, ∃ F', Ev (fun k => plane_Turn_Of.f k c n F x y) (r1, r2, F') := by
  have big1000 : (100 : Rat) ≤ pw 1000 := by decide +kernel
  have em : eta ≤ ulp * μ / 1000 := by
    have a := uul μ1
    have e : eta ≤ ulp * (1 / 4) / 1000 := by decide +kernel
    grind
  have eta1 : eta ≤ 1 := by decide +kernel
  have sz : ∀ {a b : Int}, U a → U b → fin a → fin b → rabs (val a) ≤ 1001 / 1000 → rabs (val b) ≤ 21 / 10 * μ → U (mv a b) ∧ fin (mv a b) ∧ rabs (val (mv a b) - val a * val b) ≤ ulp * rabs (val a * val b) + eta ∧ rabs (val (mv a b)) ≤ 11 := by
    intro a b ua ub fa fb ha hb
    have h := mulB ha hb
    have h9 : rabs (val a * val b) ≤ 9 := by grind
    obtain ⟨f, e⟩ := mul_abs ua ub fa fb (by grind)
    refine ⟨mv_U ua ub, f, e, ?_⟩
    have t := rabs_add (val (mv a b) - val a * val b) (val a * val b)
    rw [show val (mv a b) - val a * val b + val a * val b = val (mv a b) by grind] at t
    have := uu (rabs_nonneg (val a * val b))
    grind
  obtain ⟨u1, f1, e1, b1⟩ := sz uc ux fc fx hc hx
  obtain ⟨u2, f2, e2, b2⟩ := sz un uy fn fy hn hy
  obtain ⟨u3, f3, e3, b3⟩ := sz uc uy fc fy hc hy
  obtain ⟨u4, f4, e4, b4⟩ := sz un ux fn fx hn hx
  obtain ⟨f5, e5⟩ := add_rel u1 u2 f1 f2 (by have := rabs_add (val (mv c x)) (val (mv n y)); grind)
  obtain ⟨f6, e6⟩ := sub_rel u3 u4 f3 f4 (by
    have := rabs_add (val (mv c y)) (-val (mv n x))
    rw [rabs_neg, show val (mv c y) + -val (mv n x) = val (mv c y) - val (mv n x) by grind] at this
    grind)
  have μ0 : 0 ≤ μ := by grind
  refine ⟨_, _, av_U u1 u2, av_U u3 (U_flip u4), f5, f6, of_err μ0 hc hn hx hy hxX hyY K0 e1 e2 e5 em, ?_, fun F => ?_⟩
  · have h := of_err (n := -val n) (q := -val (mv n x)) (r := val (av (mv c y) (flip (mv n x)))) μ0 hc (by rw [rabs_neg]; exact hn) hy hx hyY hxX K0 e3 (by rw [show -val (mv n x) - -val n * val x = -(val (mv n x) - val n * val x) by grind, rabs_neg, show -val n * val x = -(val n * val x) by grind, rabs_neg]; exact e4) (by rw [show val (mv c y) + -val (mv n x) = val (mv c y) - val (mv n x) by grind]; exact e6) em
    rw [show val c * Y - val n * X = val c * Y + -val n * X by grind]
    exact h
  · unfold plane_Turn_Of.f
    exact ⟨_, Ev.bind (cM_ev uc ux) (Ev.bind (cM_ev un uy) (Ev.bind (cA_ev u1 u2) (Ev.bind (cM_ev uc uy) (Ev.bind (cM_ev un ux) (Ev.bind (cS_ev u3 u4) (Ev.now _))))))⟩
section
variable {A B C D c n : Int} {m : Rat}
  (hA : Mid A) (hB : Mid B) (hC : Mid C) (hD : Mid D) (m1 : 1 ≤ m) (m2 : m ≤ 2)
  (lA : rabs (val A) ≤ m) (lB : rabs (val B) ≤ m) (lC : rabs (val C) ≤ m) (lD : rabs (val D) ≤ m)
  (uc : U c) (un : U n) (fc : fin c) (fn : fin n) (hc : rabs (val c) ≤ 1001 / 1000) (hn : rabs (val n) ≤ 1001 / 1000)
include hA hB hC hD m1 m2 lA lB lC lD uc un fc fn hc hn
theorem turned_word : ∃ a b x y : Int, U a ∧ U b ∧ U x ∧ U y ∧ fin a ∧ fin b ∧ fin x ∧ fin y ∧
    rabs (val a - (val c * (val c * val A + val n * val C) + val n * (val c * val B + val n * val D))) ≤ 18 * (ulp * m) ∧
    rabs (val b - (val c * (val c * val B + val n * val D) - val n * (val c * val A + val n * val C))) ≤ 18 * (ulp * m) ∧
    rabs (val x - (val c * (val c * val C - val n * val A) + val n * (val c * val D - val n * val B))) ≤ 18 * (ulp * m) ∧
    rabs (val y - (val c * (val c * val D - val n * val B) - val n * (val c * val C - val n * val A))) ≤ 18 * (ulp * m) ∧
    ∀ F : Int, ∃ F', Ev (fun k => block_Two_turned.f k A B C D F c n) (a, b, x, y, F') := by
  have um := uu (show 0 ≤ m by grind)
  -- the first turn of all
  have one : ∀ {P Q : Int}, Mid P → Mid Q → rabs (val P) ≤ m → rabs (val Q) ≤ m → ∃ r1 r2 : Int, U r1 ∧ U r2 ∧ fin r1 ∧ fin r2 ∧ rabs (val r1 - (val c * val P + val n * val Q)) ≤ 41 / 10 * (ulp * m) ∧ rabs (val r2 - (val c * val Q - val n * val P)) ≤ 41 / 10 * (ulp * m) ∧ rabs (val r1) ≤ 21 / 10 * m ∧ rabs (val r2) ≤ 21 / 10 * m ∧
      ∀ F : Int, ∃ F', Ev (fun k => plane_Turn_Of.f k c n F P Q) (r1, r2, F') := by
    intro P Q hP hQ lP lQ
    obtain ⟨r1, r2, u1, u2, f1, f2, e1, e2, ev⟩ := of_word (X := val P) (Y := val Q) (μ := m * (10 / 21)) (K := 0) uc un hP.1 hQ.1 fc fn hP.2.1 hQ.2.1 (by grind) (by grind) hc hn (by grind) (by grind) (by rw [show val P - val P = 0 by grind, rabs_zero]; grind) (by rw [show val Q - val Q = 0 by grind, rabs_zero]; grind) Rat.le_refl
    have e1' : rabs (val r1 - (val c * val P + val n * val Q)) ≤ 41 / 10 * (ulp * m) := by
      have : (2002 / 1000 * 0 + 86 / 10) * (ulp * (m * (10 / 21))) = 86 / 21 * (ulp * m) := by grind
      rw [this] at e1; grind
    have e2' : rabs (val r2 - (val c * val Q - val n * val P)) ≤ 41 / 10 * (ulp * m) := by
      have : (2002 / 1000 * 0 + 86 / 10) * (ulp * (m * (10 / 21))) = 86 / 21 * (ulp * m) := by grind
      rw [this] at e2; grind
    have a1 := absle.mp (mulB hc lP)
    have a2 := absle.mp (mulB hn lQ)
    have a3 := absle.mp (mulB hc lQ)
    have a4 := absle.mp (mulB hn lP)
    have b1 := absle.mp e1'
    have b2 := absle.mp e2'
    exact ⟨r1, r2, u1, u2, f1, f2, e1', e2', by rw [absle]; grind, by rw [absle]; grind, ev⟩
  obtain ⟨a, x, ua, ux, fa, fx, ea, ex, ba, bx, ev1⟩ := one hA hC lA lC
  obtain ⟨b, y, ub, uy, fb, fy, eb, ey, bb, by_, ev2⟩ := one hB hD lB lD
  obtain ⟨o1, o2, u1, u2, f1, f2, e1, e2, ev3⟩ := of_word (μ := m) (K := 41 / 10) uc un ua ub fc fn fa fb (by grind) (by grind) hc hn ba bb ea eb (by grind)
  obtain ⟨o3, o4, u3, u4, f3, f4, e3, e4, ev4⟩ := of_word (μ := m) (K := 41 / 10) uc un ux uy fc fn fx fy (by grind) (by grind) hc hn bx by_ ex ey (by grind)
  have up : ∀ {w : Rat}, rabs w ≤ (2002 / 1000 * (41 / 10) + 86 / 10) * (ulp * m) → rabs w ≤ 18 * (ulp * m) := fun {w} h => by
    have : (2002 / 1000 * (41 / 10) + 86 / 10) * (ulp * m) = (2002 / 1000 * (41 / 10) + 86 / 10) * (ulp * m) := rfl
    grind
  refine ⟨o1, o2, o3, o4, u1, u2, u3, u4, f1, f2, f3, f4, up e1, up e2, up e3, up e4, fun F => ?_⟩
  obtain ⟨F1, h1⟩ := ev1 F
  obtain ⟨F2, h2⟩ := ev2 F1
  obtain ⟨F3, h3⟩ := ev3 F2
  obtain ⟨F4, h4⟩ := ev4 F3
  refine ⟨F4, ?_⟩
  unfold block_Two_turned.f
  exact Ev.bind h1 (Ev.bind h2 (Ev.bind h3 (Ev.bind h4 (Ev.now _))))
end
/-- Half of a number, however small. -/
theorem half_abs {a : Int} (ha : U a) (fa : fin a) (h : rabs (val a) ≤ 20) : U (mv 4602678819172646912 a) ∧ fin (mv 4602678819172646912 a) ∧ rabs (val (mv 4602678819172646912 a) - val a / 2) ≤ ulp / 1000 := by
  refine ⟨mv_U U_half ha, ?_⟩
  by_cases c : pw (-1020) ≤ rabs (val a)
  · obtain ⟨f, v⟩ := half_exact ha fa (.inr c)
    refine ⟨f, ?_⟩
    rw [v, show val a / 2 - val a / 2 = 0 by grind, rabs_zero]
    decide +kernel
  · have e2 : rabs (1 / 2 * val a) = rabs (val a) / 2 := by unfold rabs; split <;> split <;> grind
    have b : (20 : Rat) ≤ pw 1000 := by decide +kernel
    have r0 := rabs_nonneg (val a)
    obtain ⟨f, e⟩ := mul_abs U_half ha fin_half fa (by rw [val_half, e2]; grind)
    rw [val_half, e2] at e
    refine ⟨f, ?_⟩
    rw [show val a / 2 = 1 / 2 * val a by grind]
    have k : ulp * (pw (-1020) / 2) + eta ≤ ulp / 1000 := by decide +kernel
    have := uul (show rabs (val a) / 2 ≤ pw (-1020) / 2 by grind)
    grind
/-- Two turns, reckoned as one. -/
theorem compose_turn {c n c2 n2 p1 p2 p3 p4 tc ts : Rat} (h1 : rabs (c * c + n * n - 1) ≤ 17 * ulp) (h2 : rabs (c2 * c2 + n2 * n2 - 1) ≤ 96 / 10 * ulp) (hc : rabs c ≤ 1001 / 1000) (hn : rabs n ≤ 1001 / 1000) (hc2 : rabs c2 ≤ 1001 / 1000) (hn2 : rabs n2 ≤ 1001 / 1000)
    (e1 : rabs (p1 - c * c2) ≤ ulp * rabs (c * c2) + eta) (e2 : rabs (p2 - n * n2) ≤ ulp * rabs (n * n2) + eta) (e3 : rabs (p3 - c * n2) ≤ ulp * rabs (c * n2) + eta) (e4 : rabs (p4 - n * c2) ≤ ulp * rabs (n * c2) + eta)
    (e5 : rabs (tc - (p1 - p2)) ≤ ulp * rabs (p1 - p2)) (e6 : rabs (ts - (p3 + p4)) ≤ ulp * rabs (p3 + p4)) :
    rabs (c * c2 - n * n2) ≤ 1001 / 1000 ∧ rabs (c * n2 + n * c2) ≤ 1001 / 1000 ∧ rabs (tc - (c * c2 - n * n2)) ≤ 42 / 10 * ulp ∧ rabs (ts - (c * n2 + n * c2)) ≤ 42 / 10 * ulp ∧ rabs ((c * c2 - n * n2) * (c * c2 - n * n2) + (c * n2 + n * c2) * (c * n2 + n * c2) - 1) ≤ 27 * ulp := by
  have u := u_small
  have et : eta ≤ ulp / 1000 := by decide +kernel
  have sq : rabs ((c * c2 - n * n2) * (c * c2 - n * n2) + (c * n2 + n * c2) * (c * n2 + n * c2) - 1) ≤ 27 * ulp := by
    have e : (c * c2 - n * n2) * (c * c2 - n * n2) + (c * n2 + n * c2) * (c * n2 + n * c2) - 1 = (c * c + n * n - 1) * (c2 * c2 + n2 * n2 - 1) + ((c * c + n * n - 1) + (c2 * c2 + n2 * n2 - 1)) := by grind
    rw [e]
    have a := mulB h1 h2
    have uu2 := uu (x := ulp) (by grind)
    have e3 : 17 * ulp * (96 / 10 * ulp) = 17 * 96 / 10 * (ulp * ulp) := by grind
    rw [e3] at a
    have := absle.mp a; have := absle.mp h1; have := absle.mp h2
    generalize (c * c + n * n - 1) * (c2 * c2 + n2 * n2 - 1) = w at *
    rw [absle]; grind
  have b1 := mulB hc hc2
  have b2 := mulB hn hn2
  have b3 := mulB hc hn2
  have b4 := mulB hn hc2
  have lsq := absle.mp sq
  have s1 := sq_nn (c * c2 - n * n2)
  have s2 := sq_nn (c * n2 + n * c2)
  have one : ∀ {x : Rat}, rabs x ≤ 1001 / 1000 * (1001 / 1000) → ulp * rabs x + eta ≤ 1004 / 1000 * ulp := fun {x} h => by
    have := uul h
    grind
  have q1 := Rat.le_trans e1 (one b1)
  have q2 := Rat.le_trans e2 (one b2)
  have q3 := Rat.le_trans e3 (one b3)
  have q4 := Rat.le_trans e4 (one b4)
  have r5 : ulp * rabs (p1 - p2) ≤ 201 / 100 * ulp := by
    refine ule1 ?_ (by grind)
    have := absle.mp q1; have := absle.mp q2; have := absle.mp b1; have := absle.mp b2
    rw [absle]; grind
  have r6 : ulp * rabs (p3 + p4) ≤ 201 / 100 * ulp := by
    refine ule1 ?_ (by grind)
    have := absle.mp q3; have := absle.mp q4; have := absle.mp b3; have := absle.mp b4
    rw [absle]; grind
  refine ⟨le_of_sq (by grind) (by grind), le_of_sq (by grind) (by grind), ?_, ?_, sq⟩
  · have := absle.mp q1; have := absle.mp q2; have := absle.mp (Rat.le_trans e5 r5)
    rw [absle]; grind
  · have := absle.mp q3; have := absle.mp q4; have := absle.mp (Rat.le_trans e6 r6)
    rw [absle]; grind
end Gim
