/- Texts of this claim, one behind the other: what the functions answer. -/
import Derived.Test.YtdmhepgfmickdaaDoorTx2
import Derived.Test.YtdmhepgfmickdaaDoorTx0
import Derived.Shelf.Spec.TrailingZeros
import Derived.Test.YtdmhepgfmickdaaDoorRx0
import Derived.Test.YtdmhepgfmickdaaDoorTx1
set_option linter.constructorNameAsVariable false
set_option linter.unusedSimpArgs false
set_option linter.unusedVariables false
set_option linter.unusedSectionVars false
namespace Gim
open Go Go.RowKit Go.Proofs.YtdmhepgfmickdaaDoorW.PrintWords Go.Proofs.YtdmhepgfmickdaaDoorW.PrintLast Go.Proofs.YtdmhepgfmickdaaDoorW.PrintMore Go.Proofs.YtdmhepgfmickdaaDoor.F
set_option linter.unusedVariables false
set_option linter.unusedSectionVars false

theorem val_least {a : Int} (fa : fin a) (h : val a ≠ 0) : pw (-1074) ≤ rabs (val a) := by
  obtain ⟨k, hk⟩ := val_grid fa
  have p := pw_pos (-1074)
  have k0 : k ≠ 0 := fun hk0 => h (by rw [hk, hk0]; grind)
  have h1 : (1 : Rat) ≤ rabs (k : Rat) := by
    unfold rabs
    by_cases s : k < 0
    · have h1 : (k : Rat) ≤ ((-1 : Int) : Rat) := by exact_mod_cast (by omega : k ≤ -1)
      have h2 : ((-1 : Int) : Rat) = -1 := by decide
      rw [h2] at h1
      rw [if_pos (by grind)]; grind
    · have h1 : (1 : Rat) ≤ k := by exact_mod_cast (by omega : 1 ≤ k)
      rw [if_neg (by grind)]; exact h1
  rw [hk, rabs_mul, rabs_of_nonneg (Rat.le_of_lt p)]
  have := Rat.mul_le_mul_of_nonneg_right h1 (Rat.le_of_lt p)
  grind
theorem mv_pos_neg {a b : Int} (ha : U a) (hb : U b) (fa : fin a) (fb : fin b) (h1 : 0 < val a) (h2 : 0 < val b) : neg (mv a b) = false := by
  have R := mv_Rd ha hb fa fb
  have p := Rat.mul_pos h1 h2
  have := R.sign
  rw [if_neg (by grind)] at this
  rw [this]
  exact decide_eq_false (by grind)
/-- The root of a number's size. -/
theorem root_fine {a : Int} (ua : U a) (fa : fin a) (h0 : val a ≠ 0) (hi : rabs (val a) ≤ 20) : ∃ x F, Ev (fun k => more_Sqrt.f k (mag a)) (x, F) ∧ U x ∧ fin x ∧ 0 < val x ∧ pw (-538) ≤ val x ∧ val x ≤ 5 ∧ rabs (val a) * ((1 - ulq) * (1 - ulq)) ≤ val x * val x ∧ val x * val x ≤ rabs (val a) * ((1 + ulq) * (1 + ulq)) := by
  obtain ⟨um, mm, nm, vm⟩ := abs_fine (a := a)
  have fm : fin (mag a) := by unfold fin; rw [mm]; exact fa
  have p := rabs_pos h0
  obtain ⟨ux, fx, x0, x1, x2⟩ := sqrt_rel um fm (by rw [vm]; exact p)
  rw [vm] at x1 x2
  have lo := val_least fa h0
  have q1 : (1 : Rat) / 4 ≤ (1 - ulq) * (1 - ulq) := by decide +kernel
  have q2 : (1 + ulq) * (1 + ulq) ≤ (11 : Rat) / 10 := by decide +kernel
  have m1 := Rat.mul_le_mul_of_nonneg_left q1 (Rat.le_of_lt p)
  have m2 := Rat.mul_le_mul_of_nonneg_left q2 (Rat.le_of_lt p)
  refine ⟨(sP (mag a)).1, (sP (mag a)).2, sP_ev um, ux, fx, x0, sq_ge (Rat.le_of_lt (pw_pos _)) ?_ (Rat.le_of_lt x0), sq_ge (x := 5) (Rat.le_of_lt x0) (by grind) (by decide), x1, x2⟩
  have e : pw (-538) * pw (-538) = pw (-1074) * (1 / 4) := by decide +kernel
  grind
section
variable {A B C D c n : Int} {m : Rat}
  (hA : Mid A) (hB : Mid B) (hC : Mid C) (hD : Mid D) (m1 : 1 ≤ m) (m2 : m ≤ 2)
  (lA : rabs (val A) ≤ m) (lB : rabs (val B) ≤ m) (lC : rabs (val C) ≤ m) (lD : rabs (val D) ≤ m)
  (uc : U c) (un : U n) (fc : fin c) (fn : fin n)
  (T1 : rabs (val c * val c + val n * val n - 1) ≤ 17 * ulp) (hc : rabs (val c) ≤ 1001 / 1000) (hn : rabs (val n) ≤ 1001 / 1000) (T4 : rabs (val c * val n) ≤ 501 / 1000)
  (T5 : rabs ((val c * val c - val n * val n) * (val A - val D) + 2 * (val c * val n) * (val B + val C)) ≤ 41 * (ulp * m))
include hA hB hC hD m1 m2 lA lB lC lD uc un fc fn T1 hc hn T4 T5
set_option maxHeartbeats 4000000 in
theorem j3_words : ∃ tc ts sA sB sC sD : Int, (∀ F : Int, Ev (fun k => block_standard.j3 k c n A B C D F) (tc, ts, sA, sB, sC, sD)) ∧
    U tc ∧ U ts ∧ U sA ∧ U sB ∧ U sC ∧ U sD ∧ fin tc ∧ fin ts ∧ fin sA ∧ fin sB ∧ fin sC ∧ fin sD ∧
    rabs (val tc * val tc + val ts * val ts - 1) ≤ 45 * ulp ∧ Near (val tc) (val ts) (val A) (val B) (val C) (val D) (val sA) (val sB) (val sC) (val sD) (150 * (ulp * m)) ∧
    (sC = 0 ∨ sA = sD ∧ val sB ≠ 0 ∧ neg sB ≠ neg sC) := by
  have u := u_small
  have m0 : 0 ≤ m := by grind
  have um := uu m0
  have uv : ulp ≤ ulp * m := by have := uul m1; grind
  have big1000 : (100 : Rat) ≤ pw 1000 := by decide +kernel
  obtain ⟨a, b, x, y, ua, ub, ux, uy, fa, fb, fx, fy, ea, eb, ex, ey, evT⟩ := turned_word hA hB hC hD m1 m2 lA lB lC lD uc un fc fn hc hn
  obtain ⟨z00, h00⟩ : ∃ z, z = val c * (val c * val A + val n * val C) + val n * (val c * val B + val n * val D) := ⟨_, rfl⟩
  obtain ⟨z01, h01⟩ : ∃ z, z = val c * (val c * val B + val n * val D) - val n * (val c * val A + val n * val C) := ⟨_, rfl⟩
  obtain ⟨z10, h10⟩ : ∃ z, z = val c * (val c * val C - val n * val A) + val n * (val c * val D - val n * val B) := ⟨_, rfl⟩
  obtain ⟨z11, h11⟩ : ∃ z, z = val c * (val c * val D - val n * val B) - val n * (val c * val C - val n * val A) := ⟨_, rfl⟩
  rw [← h00] at ea
  rw [← h01] at eb
  rw [← h10] at ex
  rw [← h11] at ey
  -- how great they are
  have cc := sq_nn (val c)
  have nn := sq_nn (val n)
  have l1 := absle.mp T1
  have yA := absle.mp (mulB (show rabs (val c * val c) ≤ val c * val c by rw [rabs_of_nonneg cc]; exact Rat.le_refl) lA)
  have yB := absle.mp (mulB (show rabs (val c * val c) ≤ val c * val c by rw [rabs_of_nonneg cc]; exact Rat.le_refl) lB)
  have yC := absle.mp (mulB (show rabs (val c * val c) ≤ val c * val c by rw [rabs_of_nonneg cc]; exact Rat.le_refl) lC)
  have yD := absle.mp (mulB (show rabs (val c * val c) ≤ val c * val c by rw [rabs_of_nonneg cc]; exact Rat.le_refl) lD)
  have nA := absle.mp (mulB (show rabs (val n * val n) ≤ val n * val n by rw [rabs_of_nonneg nn]; exact Rat.le_refl) lA)
  have nB := absle.mp (mulB (show rabs (val n * val n) ≤ val n * val n by rw [rabs_of_nonneg nn]; exact Rat.le_refl) lB)
  have nC := absle.mp (mulB (show rabs (val n * val n) ≤ val n * val n by rw [rabs_of_nonneg nn]; exact Rat.le_refl) lC)
  have nD := absle.mp (mulB (show rabs (val n * val n) ≤ val n * val n by rw [rabs_of_nonneg nn]; exact Rat.le_refl) lD)
  have xA := absle.mp (mulB T4 lA)
  have xD := absle.mp (mulB T4 lD)
  have cnm : val c * val c * m + val n * val n * m ≤ 1001 / 1000 * m := by
    have := Rat.mul_le_mul_of_nonneg_right (show val c * val c + val n * val n ≤ 1001 / 1000 by grind) m0
    grind
  have zs : rabs (z00 + z11) ≤ 21 / 10 * m := by
    rw [show z00 + z11 = val c * val c * val A + val n * val n * val A + (val c * val c * val D + val n * val n * val D) by rw [h00, h11]; grind, absle]
    grind
  have zd : rabs (z00 - z11) ≤ 41 * (ulp * m) := by
    rw [show z00 - z11 = (val c * val c - val n * val n) * (val A - val D) + 2 * (val c * val n) * (val B + val C) by rw [h00, h11]; grind]
    exact T5
  have zb : rabs z01 ≤ 2004 / 1000 * m := by
    rw [show z01 = val c * val c * val B + val c * val n * val D - val c * val n * val A - val n * val n * val C by rw [h01]; grind, absle]
    grind
  have zc : rabs z10 ≤ 2004 / 1000 * m := by
    rw [show z10 = val c * val c * val C + val c * val n * val D - val c * val n * val A - val n * val n * val B by rw [h10]; grind, absle]
    grind
  -- the mean
  have ga : rabs (val a + val y) ≤ 22 / 10 * m := by
    have := absle.mp ea; have := absle.mp ey; have := absle.mp zs
    rw [absle]; grind
  obtain ⟨ft, et⟩ := add_rel ua uy fa fy (by grind)
  have ut : U (av a y) := av_U ua uy
  have gt := near_le et ga
  obtain ⟨us, fs, es⟩ := half_abs ut ft (by grind)
  obtain ⟨s, hs⟩ : ∃ s, s = mv 4602678819172646912 (av a y) := ⟨_, rfl⟩
  rw [← hs] at us fs es
  have es' : rabs (val s - val (av a y) / 2) ≤ ulp * m / 100 := Rat.le_trans es (by have a := uv; have b := u.1; generalize ulp * m = v at a ⊢; grind only)
  obtain ⟨s0, s1, sm⟩ := mean_near m0 zd ea ey zs et es'
  have hb : rabs (z01 - val b) ≤ 18 * (ulp * m) := by rw [show z01 - val b = -(val b - z01) by grind, rabs_neg]; exact eb
  have hx : rabs (z10 - val x) ≤ 18 * (ulp * m) := by rw [show z10 - val x = -(val x - z10) by grind, rabs_neg]; exact ex
  have le : ∀ {w k : Rat}, rabs w ≤ k * (ulp * m) → k ≤ 150 → rabs w ≤ 150 * (ulp * m) := fun {w k} h hk => by
    have := Rat.mul_le_mul_of_nonneg_right hk um.1
    grind
  -- the way there
  have start : ∀ {r : Int × Int × Int × Int × Int × Int}, (∀ F : Int, Ev (fun k => (word_Kind.f k x).bind fun q56 => (if q56 = 1 then (some (c, n, s, b, (0 : Int), s)) else ((word_Kind.f k b).bind fun q58 => (if q58 = 1 then ((word_Flip.f x).bind fun q60 => ((word_Flip.f n).bind fun q61 => (some (q61, c, s, q60, (0 : Int), s)))) else ((word_Neg.f b).bind fun q62 => ((word_Neg.f x).bind fun q63 => (if (q62 == q63) = true then ((word_Abs.f b).bind fun q65 => ((more_Sqrt.f k q65).bind fun q66 => ((word_Abs.f x).bind fun q67 => ((more_Sqrt.f k q67).bind fun q68 => ((soft_Calc_Mul.f k F q66.1 q68.1).bind fun q69 => ((word_Sign.f q69.1 x).bind fun q70 => ((soft_Calc_Add.f k q69.2 b x).bind fun q71 => ((word_Abs.f q71.1).bind fun q72 => ((more_Sqrt.f k q72).bind fun q73 => ((soft_Calc_Div.f k q71.2 4607182418800017408 q73.1).bind fun q74 => ((soft_Calc_Mul.f k q74.2 q66.1 q74.1).bind fun q75 => ((soft_Calc_Mul.f k q75.2 q68.1 q74.1).bind fun q76 => ((soft_Calc_Add.f k q76.2 s q70).bind fun q77 => ((soft_Calc_Sub.f k q77.2 b x).bind fun q78 => ((soft_Calc_Sub.f k q78.2 s q70).bind fun q79 => ((soft_Calc_Mul.f k q79.2 c q75.1).bind fun q80 => ((soft_Calc_Mul.f k q80.2 n q76.1).bind fun q81 => ((soft_Calc_Sub.f k q81.2 q80.1 q81.1).bind fun q82 => ((soft_Calc_Mul.f k q82.2 c q76.1).bind fun q83 => ((soft_Calc_Mul.f k q83.2 n q75.1).bind fun q84 => ((soft_Calc_Add.f k q84.2 q83.1 q84.1).bind fun q85 => (some (q82.1, q85.1, q77.1, q78.1, (0 : Int), q79.1))))))))))))))))))))))) else (some (c, n, s, b, x, s))))))))) r) → ∀ F : Int, Ev (fun k => block_standard.j3 k c n A B C D F) r := fun {r} h F => by
    obtain ⟨F', hT⟩ := evT F
    refine Ev.succ ?_
    simp only [block_standard.j3]
    refine Ev.bind hT (Ev.bind (cA_ev ua uy) ?_)
    have e : ∀ F, Ev (fun k => soft_Calc_Mul.f k F 4602678819172646912 (av a y)) (s, (cM F 4602678819172646912 (av a y)).2) := fun F => by rw [hs]; exact cM_ev U_half ut
    exact Ev.bind (e _) (h _)
  have kz : ∀ {w : Int}, kindOf (w % 9223372036854775808) = 1 ↔ val w = 0 := fun {w} => by
    rw [kind1, val_zero_iff]; rfl
  have F0 : fin 0 := by decide
  have U0 : U 0 := ⟨by decide, by decide⟩
  have v0 : val 0 = 0 := by decide +kernel
  by_cases x0 : val x = 0
  · refine ⟨c, n, s, b, 0, s, start fun F => Ev.bind (word_Kind_ev ux) (Ev.pos (kz.mpr x0) (Ev.now _)), uc, un, us, ub, U0, us, fc, fn, fs, fb, F0, fs, by grind, ⟨?_, ?_, ?_, ?_⟩, .inl rfl⟩
    · rw [← h00]; exact le s0 (by grind)
    · rw [← h01]; exact le hb (by grind)
    · rw [← h10, v0, ← x0]; exact le hx (by grind)
    · rw [← h11]; exact le s1 (by grind)
  by_cases b0 : val b = 0
  · refine ⟨flip n, c, s, flip x, 0, s, start fun F => Ev.bind (word_Kind_ev ux) (Ev.neg (fun h => x0 (kz.mp h)) (Ev.bind (word_Kind_ev ub) (Ev.pos (kz.mpr b0) (Ev.call (word_Flip_eq ux) (Ev.call (word_Flip_eq un) (Ev.now _)))))), U_flip un, uc, us, U_flip ux, U0, us, by unfold fin; rw [mag_flip un]; exact fn, fc, fs, by unfold fin; rw [mag_flip ux]; exact fx, F0, fs, ?_, ⟨?_, ?_, ?_, ?_⟩, .inl rfl⟩
    · rw [val_flip un, show -val n * -val n + val c * val c - 1 = val c * val c + val n * val n - 1 by grind]; grind
    · rw [val_flip un, show -val n * (-val n * val A + val c * val C) + val c * (-val n * val B + val c * val D) = z11 by rw [h11]; grind]; exact le s1 (by grind)
    · rw [val_flip un, val_flip ux, show -val n * (-val n * val B + val c * val D) - val c * (-val n * val A + val c * val C) - -val x = -(z10 - val x) by rw [h10]; grind, rabs_neg]; exact le hx (by grind)
    · rw [val_flip un, v0, show -val n * (-val n * val C - val c * val A) + val c * (-val n * val D - val c * val B) - 0 = -(z01 - val b) by rw [h01, b0]; grind, rabs_neg]; exact le hb (by grind)
    · rw [val_flip un, show -val n * (-val n * val D - val c * val B) - val c * (-val n * val C - val c * val A) = z00 by rw [h00]; grind]; exact le s0 (by grind)
  by_cases sg : neg b = neg x
  · -- two real ones after all
    have e1 : ∃ e : Rat, e * e = 1 ∧ val b = e * rabs (val b) ∧ val x = e * rabs (val x) ∧ ∀ w : Int, val (signed (neg x) (mag w)) = e * rabs (val w) := by
      have pb : rabs (val b) = vm (mag b) := rabs_val b
      have px : rabs (val x) = vm (mag x) := rabs_val x
      have pw_ : ∀ w : Int, val (signed (neg x) (mag w)) = if neg x then -vm (mag w) else vm (mag w) := fun w => val_signed mag_lt.1 mag_lt.2
      cases hx2 : neg x
      · refine ⟨1, by grind, ?_, ?_, fun w => ?_⟩
        · rw [pb]; unfold val; rw [sg, hx2, if_neg (by decide)]; grind
        · rw [px]; unfold val; rw [hx2, if_neg (by decide)]; grind
        · rw [← hx2, pw_, hx2, if_neg (by decide), rabs_val]; grind
      · refine ⟨-1, by grind, ?_, ?_, fun w => ?_⟩
        · rw [pb]; unfold val; rw [sg, hx2, if_pos rfl]; grind
        · rw [px]; unfold val; rw [hx2, if_pos rfl]; grind
        · rw [← hx2, pw_, hx2, if_pos rfl, rabs_val]; grind
    obtain ⟨e, ee, eb', ex', eq'⟩ := e1
    have gb : rabs (val b) ≤ 205 / 100 * m := by
      have := absle.mp zb; have := absle.mp hb
      rw [absle]; grind
    have gx : rabs (val x) ≤ 205 / 100 * m := by
      have := absle.mp zc; have := absle.mp hx
      rw [absle]; grind
    have pb := rabs_pos b0
    have px := rabs_pos x0
    obtain ⟨X, FX, evX, uX, fX, X0, Xlo, Xhi, X1, X2⟩ := root_fine ub fb b0 (by grind)
    obtain ⟨Y, FY, evY, uY, fY, Y0, Ylo, Yhi, Y1, Y2⟩ := root_fine ux fx x0 (by grind)
    have XY0 : 0 < val X * val Y := Rat.mul_pos X0 Y0
    have XYhi : val X * val Y ≤ 25 := by
      have a := Rat.mul_le_mul_of_nonneg_right Xhi (Rat.le_of_lt Y0)
      grind
    have aXY : rabs (val X * val Y) = val X * val Y := rabs_of_nonneg (Rat.le_of_lt XY0)
    obtain ⟨fq, eq0⟩ := mul_abs uX uY fX fY (by rw [aXY]; grind)
    have uq : U (mv X Y) := mv_U uX uY
    rw [aXY] at eq0
    obtain ⟨q0, hq0⟩ : ∃ q0, q0 = mv X Y := ⟨_, rfl⟩
    rw [← hq0] at fq eq0 uq
    have et1 : eta ≤ ulp / 1000 := by decide +kernel
    have q0n : neg q0 = false := by rw [hq0]; exact mv_pos_neg uX uY fX fY X0 Y0
    have q0p : rabs (val q0) = val q0 := rabs_of_nonneg (val_pos q0n)
    obtain ⟨q, hq⟩ : ∃ q, q = signed (neg x) (mag q0) := ⟨_, rfl⟩
    obtain ⟨uQ, fQ, _, _, aQ⟩ := sign_fine uq fq ux
    rw [← hq] at uQ fQ aQ
    have vq : val q = e * val q0 := by rw [hq, eq' q0, q0p]
    -- the sum
    have T0 : 0 < rabs (val b) + rabs (val x) := by grind
    have ae : rabs e = 1 := by
      have : e = 1 ∨ e = -1 := by
        have h : (e - 1) * (e + 1) = 0 := by grind
        rcases Rat.mul_eq_zero.mp h with h | h
        · left; grind
        · right; grind
      rcases this with h | h <;> rw [h] <;> decide
    have sumA : rabs (val b + val x) = rabs (val b) + rabs (val x) := by
      have : val b + val x = e * (rabs (val b) + rabs (val x)) := by
        have a1 := eb'
        have a2 := ex'
        generalize rabs (val b) = B1 at *
        generalize rabs (val x) = X1 at *
        grind
      rw [this, rabs_mul, ae, rabs_of_nonneg (Rat.le_of_lt T0)]; grind
    obtain ⟨fS, eS⟩ := add_rel ub ux fb fx (by rw [sumA]; grind)
    have uS : U (av b x) := av_U ub ux
    have S0 : val (av b x) ≠ 0 := fun h => by
      have h2 := (near_nz eS).mp h
      rw [h2, rabs_zero] at sumA
      grind
    have Shi := near_le eS (show rabs (val b + val x) ≤ 41 / 10 * m by rw [sumA]; grind)
    obtain ⟨R, FR, evR, uR, fR, R0, Rlo, Rhi, R1, R2⟩ := root_fine uS fS S0 (by grind)
    have tT : rabs (rabs (val (av b x)) - (rabs (val b) + rabs (val x))) ≤ ulp * (rabs (val b) + rabs (val x)) := by
      have l := absle.mp eS
      rw [sumA] at l
      have t1 := rabs_add (val (av b x) - (val b + val x)) (val b + val x)
      rw [show val (av b x) - (val b + val x) + (val b + val x) = val (av b x) by grind, sumA] at t1
      have t2 := rabs_add (-(val (av b x) - (val b + val x))) (val (av b x))
      rw [rabs_neg, show -(val (av b x) - (val b + val x)) + val (av b x) = val b + val x by grind, sumA] at t2
      have t3 := eS
      rw [sumA] at t3
      rw [absle]; grind
    -- one by its root
    have Rne : val R ≠ 0 := by grind
    have o1 : rabs ((1 : Rat) / val R) ≤ pw 540 := rdiv_le R0 (by
      have a := Rat.mul_le_mul_of_nonneg_left Rlo (Rat.le_of_lt (pw_pos 540))
      have e : (1 : Rat) ≤ pw 540 * pw (-538) := by decide +kernel
      rw [show rabs (1 : Rat) = 1 by decide]; grind)
    have o2 : 1 / 5 ≤ rabs ((1 : Rat) / val R) := rdiv_ge R0 (by rw [show rabs (1 : Rat) = 1 by decide]; grind)
    obtain ⟨ff, ef⟩ := div_rel U_one uR fin_one fR Rne (by
      rw [val_one]
      exact ⟨.inr (Rat.le_trans (show pw (-1022) ≤ 1 / 5 by decide +kernel) o2), Rat.le_trans o1 (pw_mono (by decide))⟩)
    rw [val_one] at ef
    have uf : U (dP 4607182418800017408 R).1 := (dP_R U_one uR).rangeU
    obtain ⟨f, hf⟩ : ∃ f, f = (dP 4607182418800017408 R).1 := ⟨_, rfl⟩
    rw [← hf] at ff ef uf
    have efb := div_back R0 ef
    rw [show ulp * rabs (1 : Rat) = ulp by rw [show rabs (1 : Rat) = 1 by decide]; grind] at efb
    have f0 : 0 < val f := by
      refine Rat.not_le.mp fun h => ?_
      have := Rat.mul_nonneg (show 0 ≤ -val f by grind) (Rat.le_of_lt R0)
      have := absle.mp efb
      grind
    have af : rabs (val f) = val f := rabs_of_nonneg (Rat.le_of_lt f0)
    have flo := near_big ef o2
    have fhi := near_le ef o1
    rw [af] at flo fhi
    -- the second turn
    have second : ∀ {w : Int}, U w → fin w → 0 < val w → pw (-538) ≤ val w → val w ≤ 5 → U (mv w f) ∧ fin (mv w f) ∧ rabs (val (mv w f) - val w * val f) ≤ ulp * rabs (val w * val f) := by
      intro w uw fw w0 wlo whi
      have wf0 : 0 < val w * val f := Rat.mul_pos w0 f0
      have a : rabs (val w * val f) = val w * val f := rabs_of_nonneg (Rat.le_of_lt wf0)
      obtain ⟨g1, g2⟩ := mul_rel uw uf fw ff ⟨.inr (by
        rw [a]
        have b1 := Rat.mul_le_mul_of_nonneg_right wlo (Rat.le_of_lt f0)
        have b2 := Rat.mul_le_mul_of_nonneg_left flo (Rat.le_of_lt (pw_pos (-538)))
        have e : pw (-1022) ≤ pw (-538) * (1 / 5 * (999 / 1000)) := by decide +kernel
        grind), by
        rw [a]
        have b1 := Rat.mul_le_mul_of_nonneg_right whi (Rat.le_of_lt f0)
        have e : 5 * (pw 540 * (1001 / 1000)) ≤ pw 1000 := by decide +kernel
        grind⟩
      exact ⟨mv_U uw uf, g1, g2⟩
    obtain ⟨uc2, fc2, ec2⟩ := second uX fX X0 Xlo Xhi
    obtain ⟨un2, fn2, en2⟩ := second uY fY Y0 Ylo Yhi
    obtain ⟨c2, hc2⟩ : ∃ c2, c2 = mv X f := ⟨_, rfl⟩
    obtain ⟨n2, hn2⟩ : ∃ n2, n2 = mv Y f := ⟨_, rfl⟩
    rw [← hc2] at uc2 fc2 ec2
    rw [← hn2] at un2 fn2 en2
    obtain ⟨c20, n20, S1, S2, S3, S4⟩ := second_scal (T := rabs (val b) + rabs (val x)) (t := rabs (val (av b x))) (r := val R) (f := val f) (c := val c2) (n := val n2) pb px X0 Y0 X1 X2 Y1 Y2 rfl tT R0 R1 R2 efb ec2 en2
    have sqb : ∀ {w k : Rat}, k ≤ rabs (val b) + rabs (val x) → 0 ≤ k → rabs (w * w * (rabs (val b) + rabs (val x)) - k) ≤ 96 / 10 * (ulp * k) → rabs w ≤ 1001 / 1000 := by
      intro w k hk k0 h
      refine le_of_sq (by grind) ?_
      have l := absle.mp h
      have uk := uu k0
      refine Rat.not_lt.mp fun hlt => ?_
      have := Rat.mul_lt_mul_of_pos_right hlt T0
      grind
    have bc2 := sqb (by grind) (by grind) S1
    have bn2 := sqb (by grind) (by grind) S2
    -- the entries
    have gq : rabs (val q) ≤ 26 := by
      rw [aQ, q0p]
      have := absle.mp eq0
      have := uu (Rat.le_of_lt XY0)
      grind
    have gs : rabs (val s) ≤ 3 := by grind
    obtain ⟨fA, eA⟩ := add_rel us uQ fs fQ (by have := rabs_add (val s) (val q); grind)
    obtain ⟨fD, eD⟩ := sub_rel us uQ fs fQ (by
      have := rabs_add (val s) (-val q)
      rw [rabs_neg, show val s + -val q = val s - val q by grind] at this
      grind)
    obtain ⟨fB, eB⟩ := sub_rel ub ux fb fx (by
      have := rabs_add (val b) (-val x)
      rw [rabs_neg, show val b + -val x = val b - val x by grind] at this
      grind)
    obtain ⟨N0, N1, N2, N3, N4⟩ := second_near (P := val c2 * val c2) (N := val n2 * val n2) (K := val c2 * val n2) (z00 := z00) (z01 := z01) (z10 := z10) (z11 := z11) (s := val s) (β := val b) (γ := val x) (q := val q) (sA := val (av s q)) (sB := val (av b (flip x))) (sD := val (av s (flip q))) (b := rabs (val b)) (g := rabs (val x)) (e := e) (xy := val X * val Y) (q0 := val q0) (T := rabs (val b) + rabs (val x)) (m := m) (v := ulp * m)
      m0 rfl pb px ee eb' ex' rfl vq S1 S2 S3 (Rat.le_of_lt XY0) S4 (by grind) s0 s1 hb hx sm (by grind) eA eB eD
    -- the two turns as one
    have pr : ∀ {w z : Int}, U w → U z → fin w → fin z → rabs (val w) ≤ 1001 / 1000 → rabs (val z) ≤ 1001 / 1000 → U (mv w z) ∧ fin (mv w z) ∧ rabs (val (mv w z) - val w * val z) ≤ ulp * rabs (val w * val z) + eta ∧ rabs (val (mv w z)) ≤ 3 := by
      intro w z uw uz fw fz bw bz
      have h := mulB bw bz
      obtain ⟨g1, g2⟩ := mul_abs uw uz fw fz (by grind)
      refine ⟨mv_U uw uz, g1, g2, ?_⟩
      have t := rabs_add (val (mv w z) - val w * val z) (val w * val z)
      rw [show val (mv w z) - val w * val z + val w * val z = val (mv w z) by grind] at t
      have := uu (rabs_nonneg (val w * val z))
      grind
    obtain ⟨u1, f1, p1, g1⟩ := pr uc uc2 fc fc2 hc bc2
    obtain ⟨u2, f2, p2, g2⟩ := pr un un2 fn fn2 hn bn2
    obtain ⟨u3, f3, p3, g3⟩ := pr uc un2 fc fn2 hc bn2
    obtain ⟨u4, f4, p4, g4⟩ := pr un uc2 fn fc2 hn bc2
    obtain ⟨ftc, etc⟩ := sub_rel u1 u2 f1 f2 (by
      have := rabs_add (val (mv c c2)) (-val (mv n n2))
      rw [rabs_neg, show val (mv c c2) + -val (mv n n2) = val (mv c c2) - val (mv n n2) by grind] at this
      grind)
    obtain ⟨fts, ets⟩ := add_rel u3 u4 f3 f4 (by have := rabs_add (val (mv c n2)) (val (mv n c2)); grind)
    obtain ⟨C1, C2, C3, C4, C5⟩ := compose_turn T1 N0 hc hn bc2 bn2 p1 p2 p3 p4 etc ets
    have near := comp_near (c := val c) (n := val n) (c2 := val c2) (n2 := val n2) (A := val A) (B := val B) (C := val C) (D := val D) h00 h01 h10 h11 N1 N2 N3 N4
    obtain ⟨near2, orth⟩ := pert lA lB lC lD near C1 C2 C3 C4
    refine ⟨av (mv c c2) (flip (mv n n2)), av (mv c n2) (mv n c2), av s q, av b (flip x), 0, av s (flip q), start fun F => ?_, av_U u1 (U_flip u2), av_U u3 u4, av_U us uQ, av_U ub (U_flip ux), U0, av_U us (U_flip uQ), ftc, fts, fA, fB, F0, fD, ?_, ?_, .inl rfl⟩
    · have ev0 : ∀ F, Ev (fun k => soft_Calc_Mul.f k F X Y) (q0, (cM F X Y).2) := fun F => by rw [hq0]; exact cM_ev uX uY
      have ev1 : word_Sign.f q0 x = some q := by rw [hq]; exact word_Sign_eq uq ux
      have ev2 : ∀ F, Ev (fun k => soft_Calc_Div.f k F 4607182418800017408 R) (f, (cD F 4607182418800017408 R).2) := fun F => by rw [hf]; exact cD_ev U_one uR
      have ev3 : ∀ F, Ev (fun k => soft_Calc_Mul.f k F X f) (c2, (cM F X f).2) := fun F => by rw [hc2]; exact cM_ev uX uf
      have ev4 : ∀ F, Ev (fun k => soft_Calc_Mul.f k F Y f) (n2, (cM F Y f).2) := fun F => by rw [hn2]; exact cM_ev uY uf
      refine Ev.bind (word_Kind_ev ux) (Ev.neg (fun h => x0 (kz.mp h)) (Ev.bind (word_Kind_ev ub) (Ev.neg (fun h => b0 (kz.mp h)) (Ev.call (word_Neg_neg ub) (Ev.call (word_Neg_neg ux) (Ev.pos (by simpa using sg) ?_))))))
      exact Ev.call (word_Abs_mag ub) (Ev.bind evX (Ev.call (word_Abs_mag ux) (Ev.bind evY (Ev.bind (ev0 _) (Ev.call ev1 (Ev.bind (cA_ev ub ux) (Ev.call (word_Abs_mag uS) (Ev.bind evR (Ev.bind (ev2 _) (Ev.bind (ev3 _) (Ev.bind (ev4 _) (Ev.bind (cA_ev us uQ) (Ev.bind (cS_ev ub ux) (Ev.bind (cS_ev us uQ) (Ev.bind (cM_ev uc uc2) (Ev.bind (cM_ev un un2) (Ev.bind (cS_ev u1 u2) (Ev.bind (cM_ev uc un2) (Ev.bind (cM_ev un uc2) (Ev.bind (cA_ev u3 u4) (Ev.now _)))))))))))))))))))))
    · have := absle.mp orth; have := absle.mp C5
      generalize (val c * val c2 - val n * val n2) * (val c * val c2 - val n * val n2) + (val c * val n2 + val n * val c2) * (val c * val n2 + val n * val c2) = W at *
      rw [absle]; grind
    · obtain ⟨k1, k2, k3, k4⟩ := near2
      have up : ∀ {w : Rat}, rabs w ≤ 105 * (ulp * m) + 34 * (ulp * m) → rabs w ≤ 150 * (ulp * m) := fun h => by grind
      rw [v0]
      exact ⟨up k1, up k2, up k3, up k4⟩
  · refine ⟨c, n, s, b, x, s, start fun F => Ev.bind (word_Kind_ev ux) (Ev.neg (fun h => x0 (kz.mp h)) (Ev.bind (word_Kind_ev ub) (Ev.neg (fun h => b0 (kz.mp h)) (Ev.call (word_Neg_neg ub) (Ev.call (word_Neg_neg ux) (Ev.neg (by simpa using sg) (Ev.now _))))))), uc, un, us, ub, ux, us, fc, fn, fs, fb, fx, fs, by grind, ⟨?_, ?_, ?_, ?_⟩, .inr ⟨rfl, b0, sg⟩⟩
    · rw [← h00]; exact le s0 (by grind)
    · rw [← h01]; exact le hb (by grind)
    · rw [← h10]; exact le hx (by grind)
    · rw [← h11]; exact le s1 (by grind)
end

theorem near_mono {c n A B C D sA sB sC sD K L : Rat} (h : Near c n A B C D sA sB sC sD K) (k : K ≤ L) : Near c n A B C D sA sB sC sD L :=
  ⟨Rat.le_trans h.1 k, Rat.le_trans h.2.1 k, Rat.le_trans h.2.2.1 k, Rat.le_trans h.2.2.2 k⟩
theorem opp_le {a b : Int} (h : neg a ≠ neg b) : val a * val b ≤ 0 := by
  have e1 : neg a = true ∧ neg b = false ∨ neg a = false ∧ neg b = true := by revert h; cases neg a <;> cases neg b <;> simp
  have := Rat.mul_nonneg (vm_nonneg (mag_lt (a := a)).1) (vm_nonneg (mag_lt (a := b)).1)
  unfold val
  rcases e1 with ⟨e, f⟩ | ⟨e, f⟩ <;> rw [e, f] <;> simp <;> grind
theorem same_sum {a b : Int} (h : neg a = neg b) (h0 : val a ≠ 0) (hs : val a + val b = 0) : False := by
  have ha := vm_nonneg (mag_lt (a := a)).1
  have hb := vm_nonneg (mag_lt (a := b)).1
  unfold val at h0 hs
  rw [h] at h0 hs
  cases neg b <;> simp at h0 hs <;> grind
theorem standard_words {A B C D : Int} {m : Rat} (hA : Mid A) (hB : Mid B) (hC : Mid C) (hD : Mid D) (m1 : 1 ≤ m) (m2 : m ≤ 2)
    (lA : rabs (val A) ≤ m) (lB : rabs (val B) ≤ m) (lC : rabs (val C) ≤ m) (lD : rabs (val D) ≤ m) :
    ∃ tc ts sA sB sC sD : Int, Ev (fun k => block_standard.f k A B C D) (tc, ts, sA, sB, sC, sD) ∧
    U tc ∧ U ts ∧ U sA ∧ U sB ∧ U sC ∧ U sD ∧ fin tc ∧ fin ts ∧ fin sA ∧ fin sB ∧ fin sC ∧ fin sD ∧
    rabs (val tc * val tc + val ts * val ts - 1) ≤ 45 * ulp ∧ Near (val tc) (val ts) (val A) (val B) (val C) (val D) (val sA) (val sB) (val sC) (val sD) (150 * (ulp * m)) ∧
    (sC = 0 ∨ (sA = sD ∧ val sB ≠ 0 ∧ neg sB ≠ neg sC) ∧ (val A - val D) * (val A - val D) / 4 + val B * val C ≤ 60 * ulp) := by
  have u := u_small
  have m0 : 0 ≤ m := by grind
  have um := uu m0
  have kz : ∀ {w : Int}, kindOf (w % 9223372036854775808) = 1 ↔ val w = 0 := fun {w} => by
    rw [kind1, val_zero_iff]; rfl
  have F0 : fin 0 := by decide
  have U0 : U 0 := ⟨by decide, by decide⟩
  have v0 : val 0 = 0 := by decide +kernel
  have z0 : rabs (0 : Rat) ≤ 150 * (ulp * m) := by rw [rabs_zero]; grind
  have z1 : rabs (0 : Rat) ≤ 45 * ulp := by rw [rabs_zero]; grind
  by_cases c0 : val C = 0
  · refine ⟨4607182418800017408, 0, A, B, 0, D, ?_, U_one, U0, hA.1, hB.1, U0, hD.1, fin_one, F0, hA.2.1, hB.2.1, F0, hD.2.1, ?_, ⟨?_, ?_, ?_, ?_⟩, .inl rfl⟩
    · unfold block_standard.f
      exact Ev.bind (cS_ev hA.1 hD.1) (Ev.bind (word_Kind_ev hC.1) (Ev.pos (kz.mpr c0) (Ev.now _)))
    all_goals rw [val_one, v0]
    · rw [show (1 : Rat) * 1 + 0 * 0 - 1 = 0 by grind]; exact z1
    · rw [show (1 : Rat) * (1 * val A + 0 * val C) + 0 * (1 * val B + 0 * val D) - val A = 0 by grind]; exact z0
    · rw [show (1 : Rat) * (1 * val B + 0 * val D) - 0 * (1 * val A + 0 * val C) - val B = 0 by grind]; exact z0
    · rw [c0, show (1 : Rat) * (1 * 0 - 0 * val A) + 0 * (1 * val D - 0 * val B) - 0 = 0 by grind]; exact z0
    · rw [show (1 : Rat) * (1 * val D - 0 * val B) - 0 * (1 * val C - 0 * val A) - val D = 0 by grind]; exact z0
  by_cases b0 : val B = 0
  · refine ⟨0, 4607182418800017408, D, flip C, 0, A, ?_, U0, U_one, hD.1, U_flip hC.1, U0, hA.1, F0, fin_one, hD.2.1, hC.flip.2.1, F0, hA.2.1, ?_, ⟨?_, ?_, ?_, ?_⟩, .inl rfl⟩
    · unfold block_standard.f
      exact Ev.bind (cS_ev hA.1 hD.1) (Ev.bind (word_Kind_ev hC.1) (Ev.neg (fun h => c0 (kz.mp h)) (Ev.bind (word_Kind_ev hB.1) (Ev.pos (kz.mpr b0) (Ev.call (word_Flip_eq hC.1) (Ev.now _))))))
    all_goals rw [val_one, v0]
    · rw [show (0 : Rat) * 0 + 1 * 1 - 1 = 0 by grind]; exact z1
    · rw [show (0 : Rat) * (0 * val A + 1 * val C) + 1 * (0 * val B + 1 * val D) - val D = 0 by grind]; exact z0
    · rw [val_flip hC.1, show (0 : Rat) * (0 * val B + 1 * val D) - 1 * (0 * val A + 1 * val C) - -val C = 0 by grind]; exact z0
    · rw [b0, show (0 : Rat) * (0 * val C - 1 * val A) + 1 * (0 * val D - 1 * 0) - 0 = 0 by grind]; exact z0
    · rw [show (0 : Rat) * (0 * val D - 1 * val B) - 1 * (0 * val C - 1 * val A) - val A = 0 by grind]; exact z0
  obtain ⟨d, hd⟩ : ∃ d, d = av A (flip D) := ⟨_, rfl⟩
  have evd : Ev (fun k => soft_Calc_Sub.f k 0 A D) (d, (cS 0 A D).2) := by rw [hd]; exact cS_ev hA.1 hD.1
  obtain ⟨p, hp⟩ : ∃ p, p = mv 4602678819172646912 d := ⟨_, rfl⟩
  have ud' : U d := by rw [hd]; exact av_U hA.1 (U_flip hD.1)
  obtain ⟨big, sm, F', hbig, hsm, nb, hbs, hle, hlo, sm0, ev0⟩ := j0_ev (A := A) (D := D) (F := (cS 0 A D).2) ud' hB hC b0 c0
  obtain ⟨ud, fd, ed, ld, gd, up, fp, vp, s, z, us, fs, uz, fz, slo, shi, ps, bs, zhi, hz, es, ez⟩ := disc_words hA hB hC hD m1 m2 lA lB lC lD hd hp b0 c0 hbig hsm nb hbs hle hlo sm0
  -- the way to j0
  have start : ∀ {r : Int × Int × Int × Int × Int × Int}, ¬ (val d = 0 ∧ neg B ≠ neg C) → Ev (fun k => block_standard.j0 k d A B C D (cS 0 A D).2) r → Ev (fun k => block_standard.f k A B C D) r := by
    intro r hn h
    unfold block_standard.f
    refine Ev.bind evd (Ev.bind (word_Kind_ev hC.1) (Ev.neg (fun h => c0 (kz.mp h)) (Ev.bind (word_Kind_ev hB.1) (Ev.neg (fun h => b0 (kz.mp h)) (Ev.bind (word_Kind_ev ud) ?_)))))
    by_cases d0 : val d = 0
    · exact Ev.pos (kz.mpr d0) (Ev.call (word_Neg_neg hB.1) (Ev.call (word_Neg_neg hC.1) (Ev.neg (by
        intro h2
        exact hn ⟨d0, by simpa using h2⟩) h)))
    · exact Ev.neg (fun h => d0 (kz.mp h)) h
  by_cases dn : val d = 0 ∧ neg B ≠ neg C
  · have hAD : val A - val D = 0 := (near_nz ed).mp dn.1
    have hAD' : val D = val A := by grind
    refine ⟨4607182418800017408, 0, A, B, C, A, ?_, U_one, U0, hA.1, hB.1, hC.1, hA.1, fin_one, F0, hA.2.1, hB.2.1, hC.2.1, hA.2.1, ?_, ⟨?_, ?_, ?_, ?_⟩, .inr ⟨⟨rfl, b0, dn.2⟩, ?_⟩⟩
    · unfold block_standard.f
      exact Ev.bind evd (Ev.bind (word_Kind_ev hC.1) (Ev.neg (fun h => c0 (kz.mp h)) (Ev.bind (word_Kind_ev hB.1) (Ev.neg (fun h => b0 (kz.mp h)) (Ev.bind (word_Kind_ev ud) (Ev.pos (kz.mpr dn.1) (Ev.call (word_Neg_neg hB.1) (Ev.call (word_Neg_neg hC.1) (Ev.pos (by simpa using dn.2) (Ev.now _))))))))))
    · rw [val_one, v0, show (1 : Rat) * 1 + 0 * 0 - 1 = 0 by grind]; exact z1
    · rw [val_one, v0, show (1 : Rat) * (1 * val A + 0 * val C) + 0 * (1 * val B + 0 * val D) - val A = 0 by grind]; exact z0
    · rw [val_one, v0, show (1 : Rat) * (1 * val B + 0 * val D) - 0 * (1 * val A + 0 * val C) - val B = 0 by grind]; exact z0
    · rw [val_one, v0, show (1 : Rat) * (1 * val C - 0 * val A) + 0 * (1 * val D - 0 * val B) - val C = 0 by grind]; exact z0
    · rw [val_one, v0, hAD', show (1 : Rat) * (1 * val A - 0 * val B) - 0 * (1 * val C - 0 * val A) - val A = 0 by grind]; exact z0
    · rw [hAD]; have := opp_le dn.2; grind
  have uaz : U (mag p) := (abs_fine (a := p)).1
  have ev2 : ∀ {r : Int × Int × Int × Int × Int × Int}, (∀ F : Int, Ev (fun k => (if decide (val z < val 4377498837804122112) = true then ((soft_Calc_Add.f k F B C).bind fun q28 => ((plane_Hypot.f k q28.1 d).bind fun q29 => ((word_Abs.f q28.1).bind fun q30 => ((soft_Calc_Div.f k q28.2 q30 q29.1).bind fun q31 => ((soft_Calc_Add.f k q31.2 4607182418800017408 q31.1).bind fun q32 => ((soft_Calc_Mul.f k q32.2 4602678819172646912 q32.1).bind fun q33 => ((more_Sqrt.f k q33.1).bind fun q34 => ((soft_Calc_Mul.f k q33.2 q29.1 q34.1).bind fun q35 => ((soft_Calc_Div.f k q35.2 p q35.1).bind fun q36 => ((word_Neg.f q28.1).bind fun q37 => (if q37 = true then (block_standard.j3 k q34.1 q36.1 A B C D q36.2) else ((word_Flip.f q36.1).bind fun q39 => (block_standard.j3 k q34.1 q39 A B C D q36.2)))))))))))))
      else ((more_Sqrt.f k s).bind fun q40 => ((more_Sqrt.f k z).bind fun q41 => ((soft_Calc_Mul.f k F q40.1 q41.1).bind fun q42 => ((word_Sign.f q42.1 p).bind fun q43 => ((soft_Calc_Add.f k q42.2 p q43).bind fun q44 => ((soft_Calc_Add.f k q44.2 D q44.1).bind fun q45 => ((soft_Calc_Sub.f k q45.2 B C).bind fun q46 => ((soft_Calc_Div.f k q46.2 big q44.1).bind fun q47 => ((soft_Calc_Mul.f k q47.2 q47.1 sm).bind fun q48 => ((soft_Calc_Sub.f k q48.2 D q48.1).bind fun q49 => ((plane_Hypot.f k C q44.1).bind fun q50 => ((soft_Calc_Div.f k q49.2 q44.1 q50.1).bind fun q51 => ((soft_Calc_Div.f k q51.2 C q50.1).bind fun q52 => (some (q51.1, q52.1, q45.1, q46.1, (0 : Int), q49.1)))))))))))))))) ) r) → Ev (fun k => block_standard.f k A B C D) r := by
    intro r h
    refine start dn (ev0 r (Ev.succ ?_))
    simp only [block_standard.j2]
    rw [← hp]
    rw [es] at us fs ez h
    rw [ez] at uz fz h
    have u1 : U (dP p (mx (mag p) big)).1 := (dP_R up us).rangeU
    have u3 : U (dP big (mx (mag p) big)).1 := (dP_R hbig.1 us).rangeU
    exact Ev.call (word_Abs_mag up) (Ev.bind (cD_ev up us) (Ev.bind (cM_ev u1 up) (Ev.bind (cD_ev hbig.1 us) (Ev.bind (cM_ev u3 hsm.1) (Ev.bind (cA_ev (mv_U u1 up) (mv_U u3 hsm.1)) (Ev.bind (order_Less_ev uz U_tiny fz fin_tiny) (h _)))))))
  by_cases less : val z < pw (-51)
  · -- a pair
    have hne : val d ≠ 0 ∨ val B + val C ≠ 0 := by
      by_cases d0 : val d = 0
      · right
        intro hs
        by_cases sg : neg B = neg C
        · exact same_sum sg b0 hs
        · exact dn ⟨d0, sg⟩
      · exact .inl d0
    obtain ⟨cs, n, ucs, un, fcs, fn, T1, T2, T3, T4, T5, evt⟩ := turn_words hA hB hC hD m1 m2 lA lB lC lD ud fd ed ld gd up fp vp hne
    obtain ⟨tc, ts, sA, sB, sC, sD, ev3, u1, u2, u3, u4, u5, u6, f1, f2, f3, f4, f5, f6, O, N, P⟩ := j3_words hA hB hC hD m1 m2 lA lB lC lD ucs un fcs fn T1 T2 T3 T4 T5
    refine ⟨tc, ts, sA, sB, sC, sD, ev2 fun F => Ev.pos (by rw [val_tiny]; exact decide_eq_true less) (evt F _ ev3), u1, u2, u3, u4, u5, u6, f1, f2, f3, f4, f5, f6, O, N, ?_⟩
    rcases P with P | P
    · exact .inl P
    · refine .inr ⟨P, ?_⟩
      have s0 : 0 < val s := by have := pw_pos (-500); grind
      have e51 : pw (-51) = 4 * ulp := by decide +kernel
      have sz : val s * val z ≤ 12 * ulp := by
        have a := Rat.mul_le_mul_of_nonneg_left (Rat.le_of_lt less) (Rat.le_of_lt s0)
        have b := Rat.mul_le_mul_of_nonneg_right shi (show 0 ≤ pw (-51) by grind)
        rw [e51] at a b
        grind
      have bc : rabs (val B * val C) ≤ 4 := by
        have := mulB hB.2.2.2 hC.2.2.2
        grind
      have aD : rabs (val A - val D) ≤ 4 := by
        have t := rabs_add (val A) (-val D)
        rw [rabs_neg, show val A + -val D = val A - val D by grind] at t
        have := hA.2.2.2; have := hD.2.2.2
        grind
      have pp : val p * val p = val d * val d / 4 := by rw [vp]; grind
      have dd : rabs (val d * val d) ≤ 401 / 100 * (401 / 100) := mulB gd gd
      have dd2 : rabs (val d * val d - (val A - val D) * (val A - val D)) ≤ 34 * ulp := by
        have e : val d * val d - (val A - val D) * (val A - val D) = (val d - (val A - val D)) * (val d + (val A - val D)) := by grind
        have h1 : rabs (val d - (val A - val D)) ≤ 4 * ulp := Rat.le_trans ed (ule1 aD (by grind))
        have h2 : rabs (val d + (val A - val D)) ≤ 85 / 10 := by
          have := rabs_add (val d) (val A - val D)
          grind
        rw [e]
        have := mulB h1 h2
        grind
      have Q : ulp * (val p * val p + rabs (val B * val C)) ≤ 9 * ulp := ule1 (by
        rw [pp]; have := (rabs_self (val d * val d)).1; grind) (by grind)
      have h1 := (absle.mp hz).1
      have h2 := (absle.mp dd2).1
      generalize ulp * (val p * val p + rabs (val B * val C)) = w at h1 Q
      generalize val B * val C = w2 at h1 ⊢
      generalize (val A - val D) * (val A - val D) = w3 at h2 ⊢
      generalize val s * val z = w4 at h1 sz
      rw [pp] at h1
      generalize val d * val d = w5 at h1 h2
      have hh : w3 / 4 + w2 ≤ 12 * ulp + 33 / 10 * (9 * ulp) + 34 * ulp / 4 := by grind
      grind
  · have zlo : pw (-51) ≤ val z := Rat.not_lt.mp less
    obtain ⟨tc, ts, sA, sB, sD, ev, u1, u2, u3, u4, u5, f1, f2, f3, f4, f5, O, N⟩ := real_words hA hB hC hD m1 m2 lA lB lC lD b0 c0 hbig hsm hbs hlo ud fd ed gd up fp vp us fs uz fz slo shi ps bs hz zlo zhi
    refine ⟨tc, ts, sA, sB, 0, sD, ev2 fun F => Ev.neg (by rw [val_tiny]; simpa using less) (ev F), u1, u2, u3, u4, U0, u5, f1, f2, f3, f4, F0, f5, by grind, ?_, .inl rfl⟩
    rw [v0]
    exact near_mono N (by grind)

/-- A scaled number. -/
theorem sc_Rd {x e : Int} (ux : U x) (fx : fin x) (e0 : -10000 ≤ e) (e1 : e ≤ 10000) : (mag x = 0 ∧ (sc e x).1 = x ∧ (sc e x).2 = 0) ∨ (mag x ≠ 0 ∧ Rd (val x * pw e) (neg x) (sc e x).1 (sc e x).2) := by
  have R := sc_R' (n := e) ux e0 e1
  unfold ScaleR at R
  rw [if_neg (by rw [fin_nan fx]; decide)] at R
  by_cases h : mag x = 0
  · rw [if_pos (.inr h)] at R
    exact .inl ⟨h, R⟩
  · rw [if_neg (by rintro (h2 | h2); exact not_inf' fx h2; exact h h2)] at R
    exact .inr ⟨h, R⟩
theorem sc_neg {x e : Int} (ux : U x) (fx : fin x) (e0 : -10000 ≤ e) (e1 : e ≤ 10000) : neg (sc e x).1 = neg x := by
  rcases sc_Rd ux fx e0 e1 with ⟨_, h, _⟩ | ⟨h0, R⟩
  · rw [h]
  · have v0 : val x ≠ 0 := fun h => h0 (val_zero_iff.mp h)
    have p := pw_pos e
    have n0 : val x * pw e ≠ 0 := fun h => by
      rcases Rat.mul_eq_zero.mp h with h | h
      · exact v0 h
      · exact pw_ne _ h
    have := R.sign
    rw [if_neg n0] at this
    rw [this]
    by_cases c : val x < 0
    · have h2 := Rat.mul_lt_mul_of_pos_right c p
      rw [decide_eq_true (by grind), neg_of_lt c]
    · have h1 : 0 < val x := by grind
      have h2 := Rat.mul_pos h1 p
      rw [decide_eq_false (by grind), neg_of_gt h1]
/-- A number scaled to where it isn't small is told exactly. -/
theorem sc_exact {x e : Int} (ux : U x) (fx : fin x) (e0 : -10000 ≤ e) (e1 : e ≤ 10000) (h : pw (-1021) ≤ rabs (val x * pw e)) (h2 : rabs (val x * pw e) ≤ pw 1000) : fin (sc e x).1 ∧ val (sc e x).1 = val x * pw e := by
  rcases sc_Rd ux fx e0 e1 with ⟨h0, hr, _⟩ | ⟨h0, R⟩
  · exfalso
    rw [val_zero_iff.mpr h0, show (0 : Rat) * pw e = 0 by grind, rabs_zero] at h
    have := pw_pos (-1021)
    grind
  · have mp : 0 < mag x := by have := (mag_lt (a := x)).1; omega
    have p := pw_pos e
    have ap : rabs (val x * pw e) = vm (mag x) * pw e := by rw [rabs_mul, rabs_val, rabs_of_nonneg (Rat.le_of_lt p)]
    have ve : vm (mag x) * pw e = (mant (mag x) : Rat) * pw (expo (mag x) + e) := by unfold vm; rw [pw_add]; grind
    rw [ap, ve] at h
    have l : mant (mag x) < 9007199254740992 := mant_lt
    have ep : -1074 ≤ expo (mag x) + e := by
      refine Int.not_lt.mp fun hlt => ?_
      have h3 := (mul_pw_lt (a := mant (mag x)) (b := 9007199254740992) (e := expo (mag x) + e)).mpr l
      have h4 := pw_mono (a := expo (mag x) + e) (b := -1075) (by omega)
      have h5 : ((9007199254740992 : Int) : Rat) * pw (-1075) ≤ pw (-1021) := by decide +kernel
      have h6 := Rat.mul_le_mul_of_nonneg_left h4 (show (0 : Rat) ≤ ((9007199254740992 : Int) : Rat) by decide)
      grind
    obtain ⟨m, m0, hm⟩ := repr_exists (D := mant (mag x)) (G := expo (mag x) + e) (mant_pos mp) (by omega) ep
    have mI : m < INF := by
      have h6 : vm m < vm INF := by
        rw [hm, ← ve, ← ap]
        have : pw 1000 < vm INF := by decide +kernel
        grind
      exact (vm_lt_iff (by omega) (by decide)).mp h6
    have hI : INF < 9223372036854775808 := by decide
    have vv : val (signed (neg x) m) = val x * pw e := by
      rw [val_signed (by omega) (by omega), hm, ← ve]
      unfold val
      cases neg x <;> simp <;> grind
    obtain ⟨f0, _⟩ := R.of_exact (a := signed (neg x) m) (U_signed (by omega) (by omega)) (by unfold fin; rw [mag_signed (by omega) (by omega)]; exact mI) vv
    rw [f0] at R
    obtain ⟨v, f⟩ := R.exact
    exact ⟨f, v⟩
/-- A number scaled up is told exactly. -/
theorem sc_up {x e : Int} (ux : U x) (fx : fin x) (e0 : 0 ≤ e) (e1 : e ≤ 100) (h2 : rabs (val x) ≤ 20) : (sc e x).2 = 0 := by
  rcases sc_Rd (e := e) ux fx (by omega) (by omega) with ⟨h0, hr, h⟩ | ⟨h0, R⟩
  · exact h
  · have mp : 0 < mag x := by have := (mag_lt (a := x)).1; omega
    have p := pw_pos e
    have ap : rabs (val x * pw e) = vm (mag x) * pw e := by rw [rabs_mul, rabs_val, rabs_of_nonneg (Rat.le_of_lt p)]
    have ve : vm (mag x) * pw e = (mant (mag x) : Rat) * pw (expo (mag x) + e) := by unfold vm; rw [pw_add]; grind
    have l : mant (mag x) < 9007199254740992 := mant_lt
    have ep := (fin_expo fx).1
    obtain ⟨m, m0, hm⟩ := repr_exists (D := mant (mag x)) (G := expo (mag x) + e) (mant_pos mp) (by omega) (by omega)
    have mI : m < INF := by
      have h6 : vm m < vm INF := by
        rw [hm, ← ve, ← rabs_val]
        have a1 := Rat.mul_le_mul_of_nonneg_right h2 (Rat.le_of_lt p)
        have a2 := pw_mono (a := e) (b := 100) e1
        have : 20 * pw 100 < vm INF := by decide +kernel
        grind
      exact (vm_lt_iff (by omega) (by decide)).mp h6
    have hI : INF < 9223372036854775808 := by decide
    have vv : val (signed (neg x) m) = val x * pw e := by
      rw [val_signed (by omega) (by omega), hm, ← ve]
      unfold val
      cases neg x <;> simp <;> grind
    exact (R.of_exact (a := signed (neg x) m) (U_signed (by omega) (by omega)) (by unfold fin; rw [mag_signed (by omega) (by omega)]; exact mI) vv).1
/-- What is too small is nought. -/
def fls (x : Int) : Int := if mag x < 2355382605114769408 then 0 else x
theorem val_nothing : vm 2355382605114769408 = pw (-500) := by decide +kernel
theorem fl_mid {x e : Int} {M : Rat} (ux : U x) (fx : fin x) (e0 : -5000 ≤ e) (e1 : e ≤ 5000) (hM : rabs (val x) * pw (-e) ≤ M) (M2 : M ≤ 2) : Mid (fls (sc (-e) x).1) ∧ rabs (val (fls (sc (-e) x).1)) ≤ M ∧ rabs (val x - val (fls (sc (-e) x).1) * pw e) ≤ pw (-499) * pw e := by
  have p := pw_pos (-e)
  have pe := pw_pos e
  have pme : pw e * pw (-e) = 1 := by rw [Rat.mul_comm]; exact pw_neg_mul e
  have us : U (sc (-e) x).1 := sc_U ux
  have ab : rabs (val x * pw (-e)) = rabs (val x) * pw (-e) := by rw [rabs_mul, rabs_of_nonneg (Rat.le_of_lt p)]
  have M0 : 0 ≤ M := Rat.le_trans (Rat.mul_nonneg (rabs_nonneg _) (Rat.le_of_lt p)) hM
  have v0 : val 0 = 0 := by decide +kernel
  have m0 : Mid 0 := ⟨⟨by decide, by decide⟩, by decide, .inl v0, by rw [v0, rabs_zero]; decide⟩
  have big : (2 : Rat) ≤ pw 1000 := by decide +kernel
  -- what is told as small is small
  have cut : ∀ {y : Int}, mag y < 2355382605114769408 ↔ rabs (val y) < pw (-500) := fun {y} => by
    rw [rabs_val, ← val_nothing, vm_lt_iff mag_lt.1 (by decide)]
  have back : val x = val x * pw (-e) * pw e := by rw [Rat.mul_assoc, Rat.mul_comm (pw (-e)), pme, Rat.mul_one]
  by_cases big1 : pw (-1021) ≤ rabs (val x * pw (-e))
  · obtain ⟨f, v⟩ := sc_exact (e := -e) ux fx (by omega) (by omega) big1 (by rw [ab]; grind)
    unfold fls
    by_cases c : mag (sc (-e) x).1 < 2355382605114769408
    · rw [if_pos c]
      have c2 := cut.mp c
      refine ⟨m0, by rw [v0, rabs_zero]; exact M0, ?_⟩
      rw [v0, show val x - 0 * pw e = val x by grind, back, rabs_mul (val x * pw (-e)), rabs_of_nonneg (Rat.le_of_lt pe), ← v]
      have a := Rat.mul_le_mul_of_nonneg_right (Rat.le_of_lt c2) (Rat.le_of_lt pe)
      have b : pw (-500) ≤ pw (-499) := pw_mono (by decide)
      have d := Rat.mul_le_mul_of_nonneg_right b (Rat.le_of_lt pe)
      grind
    · rw [if_neg c]
      have c2 := Rat.not_lt.mp fun h => c (cut.mpr h)
      refine ⟨⟨us, f, .inr c2, ?_⟩, ?_, ?_⟩
      · rw [v, ab]; grind
      · rw [v, ab]; exact hM
      · rw [v, ← back, show val x - val x = 0 by grind, rabs_zero]
        exact Rat.mul_nonneg (Rat.le_of_lt (pw_pos _)) (Rat.le_of_lt pe)
  · -- it is very small: it will be nought
    have sm : rabs (val (sc (-e) x).1) < pw (-500) := by
      have k : pw (-1021) * (1001 / 1000) + eta < pw (-500) := by decide +kernel
      rcases sc_Rd (e := -e) ux fx (by omega) (by omega) with ⟨h0, hr, _⟩ | ⟨h0, R⟩
      · rw [hr, val_zero_iff.mpr h0, rabs_zero]; exact pw_pos _
      · obtain ⟨_, er⟩ := R.errA (by rw [ab]; grind)
        have t := rabs_add (val (sc (-e) x).1 - val x * pw (-e)) (val x * pw (-e))
        rw [show val (sc (-e) x).1 - val x * pw (-e) + val x * pw (-e) = val (sc (-e) x).1 by grind] at t
        have := uu (rabs_nonneg (val x * pw (-e)))
        grind
    unfold fls
    rw [if_pos (cut.mpr sm)]
    refine ⟨m0, by rw [v0, rabs_zero]; exact M0, ?_⟩
    rw [v0, show val x - 0 * pw e = val x by grind, back, rabs_mul (val x * pw (-e)), rabs_of_nonneg (Rat.le_of_lt pe)]
    have b : pw (-1021) ≤ pw (-499) := pw_mono (by decide)
    have a := Rat.mul_le_mul_of_nonneg_right (show rabs (val x * pw (-e)) ≤ pw (-499) by grind) (Rat.le_of_lt pe)
    exact a
/-- Flags. -/
theorem flag_or : ∀ x : Fin 256, ∀ f : Fin 17, Go.bits .and .u8 (Go.bits .or .u8 (x : Nat) (f : Nat)) 6 = 0 → Go.bits .and .u8 (x : Nat) 6 = 0 ∧ (f : Nat) ≠ 3 ∧ (f : Nat) ≠ 5 := by decide +kernel
theorem flag_or' {x f : Int} (hx : F8 x) (f0 : 0 ≤ f) (f1 : f ≤ 16) (h : Go.bits .and .u8 (Go.bits .or .u8 x f) 6 = 0) : Go.bits .and .u8 x 6 = 0 ∧ f ≠ 3 ∧ f ≠ 5 := by
  obtain ⟨a, rfl⟩ := Int.eq_ofNat_of_zero_le hx.1
  obtain ⟨b, rfl⟩ := Int.eq_ofNat_of_zero_le f0
  have := flag_or ⟨a, by have := hx.2; omega⟩ ⟨b, by omega⟩ h
  simp only at this
  omega
theorem sc_flags {x e : Int} (ux : U x) (e0 : -10000 ≤ e) (e1 : e ≤ 10000) : 0 ≤ (sc e x).2 ∧ (sc e x).2 ≤ 16 := (sc_R' ux e0 e1).flags
theorem sc_back {x e : Int} (ux : U x) (fx : fin x) (e0 : -10000 ≤ e) (e1 : e ≤ 10000) (f3 : (sc e x).2 ≠ 3) (f5 : (sc e x).2 ≠ 5) : fin (sc e x).1 ∧ rabs (val (sc e x).1 - val x * pw e) ≤ ulp * rabs (val x * pw e) := by
  rcases sc_Rd ux fx e0 e1 with ⟨h0, hr, _⟩ | ⟨h0, R⟩
  · rw [hr]
    refine ⟨fx, ?_⟩
    have v := val_zero_iff.mpr h0
    rw [v, show (0 : Rat) - 0 * pw e = 0 by grind, rabs_zero]
    exact (uu (rabs_nonneg _)).1
  · obtain ⟨a, b, _⟩ := R.err f3 f5
    exact ⟨a, b⟩
/-- A block's numbers, turned, are near; of what is greater. -/
theorem near_scale {c n A B C D sA sB sC sD K k : Rat} (h : Near c n A B C D sA sB sC sD K) (k0 : 0 ≤ k) : Near c n (A * k) (B * k) (C * k) (D * k) (sA * k) (sB * k) (sC * k) (sD * k) (K * k) := by
  obtain ⟨h1, h2, h3, h4⟩ := h
  have m : ∀ {x y : Rat}, y = x * k → rabs x ≤ K → rabs y ≤ K * k := fun {x y} e h => by
    rw [e, rabs_mul, rabs_of_nonneg k0]; exact Rat.mul_le_mul_of_nonneg_right h k0
  exact ⟨m (by grind) h1, m (by grind) h2, m (by grind) h3, m (by grind) h4⟩
theorem near_move {c n A B C D sA sB sC sD A' B' C' D' tA tB tC tD K δ ε : Rat} (h : Near c n A B C D sA sB sC sD K) (hc : rabs c ≤ 1001 / 1000) (hn : rabs n ≤ 1001 / 1000) (δ0 : 0 ≤ δ) (hA : rabs (A' - A) ≤ δ) (hB : rabs (B' - B) ≤ δ) (hC : rabs (C' - C) ≤ δ) (hD : rabs (D' - D) ≤ δ)
    (tA' : rabs (tA - sA) ≤ ε) (tB' : rabs (tB - sB) ≤ ε) (tC' : rabs (tC - sC) ≤ ε) (tD' : rabs (tD - sD) ≤ ε) : Near c n A' B' C' D' tA tB tC tD (K + 5 * δ + ε) := by
  obtain ⟨h1, h2, h3, h4⟩ := h
  have pr : ∀ {x y z : Rat}, rabs x ≤ 1001 / 1000 → rabs y ≤ 1001 / 1000 → rabs z ≤ δ → rabs (x * y * z) ≤ 101 / 100 * δ := fun {x y z} hx hy hz => by
    have a := mulB (mulB hx hy) hz
    grind
  have m : ∀ {w x p q r s t : Rat}, w = x + (p + q + r + s) - t → rabs x ≤ K → rabs p ≤ 101 / 100 * δ → rabs q ≤ 101 / 100 * δ → rabs r ≤ 101 / 100 * δ → rabs s ≤ 101 / 100 * δ → rabs t ≤ ε → rabs w ≤ K + 5 * δ + ε := fun {w x p q r s t} e a b c d f g => by
    rw [e]
    have := absle.mp a; have := absle.mp b; have := absle.mp c; have := absle.mp d; have := absle.mp f; have := absle.mp g
    rw [absle]; grind
  have ng : ∀ {x : Rat}, rabs x ≤ 101 / 100 * δ → rabs (-x) ≤ 101 / 100 * δ := fun h => by rw [rabs_neg]; exact h
  refine ⟨?_, ?_, ?_, ?_⟩
  · exact m (p := c * c * (A' - A)) (q := c * n * (C' - C)) (r := c * n * (B' - B)) (s := n * n * (D' - D)) (t := tA - sA) (by grind) h1 (pr hc hc hA) (pr hc hn hC) (pr hc hn hB) (pr hn hn hD) tA'
  · exact m (p := c * c * (B' - B)) (q := c * n * (D' - D)) (r := -(c * n * (A' - A))) (s := -(n * n * (C' - C))) (t := tB - sB) (by grind) h2 (pr hc hc hB) (pr hc hn hD) (ng (pr hc hn hA)) (ng (pr hn hn hC)) tB'
  · exact m (p := c * c * (C' - C)) (q := -(c * n * (A' - A))) (r := c * n * (D' - D)) (s := -(n * n * (B' - B))) (t := tC - sC) (by grind) h3 (pr hc hc hC) (ng (pr hc hn hA)) (pr hc hn hD) (ng (pr hn hn hB)) tC'
  · exact m (p := c * c * (D' - D)) (q := -(c * n * (B' - B))) (r := -(c * n * (C' - C))) (s := n * n * (A' - A)) (t := tD - sD) (by grind) h4 (pr hc hc hD) (ng (pr hc hn hB)) (ng (pr hc hn hC)) (pr hn hn hA) tD'
theorem near_size {c n A B C D sA sB sC sD K m : Rat} (h : Near c n A B C D sA sB sC sD K) (hc : rabs c ≤ 1001 / 1000) (hn : rabs n ≤ 1001 / 1000) (hA : rabs A ≤ m) (hB : rabs B ≤ m) (hC : rabs C ≤ m) (hD : rabs D ≤ m) (m0 : 0 ≤ m) : rabs sA ≤ 5 * m + K ∧ rabs sB ≤ 5 * m + K ∧ rabs sC ≤ 5 * m + K ∧ rabs sD ≤ 5 * m + K := by
  have z : rabs (0 : Rat) ≤ 0 := by rw [rabs_zero]; exact Rat.le_refl
  have h2 := near_move (A' := 0) (B' := 0) (C' := 0) (D' := 0) (tA := sA) (tB := sB) (tC := sC) (tD := sD) (δ := m) (ε := 0) h hc hn m0 (by rw [show 0 - A = -A by grind, rabs_neg]; exact hA) (by rw [show 0 - B = -B by grind, rabs_neg]; exact hB) (by rw [show 0 - C = -C by grind, rabs_neg]; exact hC) (by rw [show 0 - D = -D by grind, rabs_neg]; exact hD)
    (by rw [show sA - sA = 0 by grind]; exact z) (by rw [show sB - sB = 0 by grind]; exact z) (by rw [show sC - sC = 0 by grind]; exact z) (by rw [show sD - sD = 0 by grind]; exact z)
  obtain ⟨h1, h2, h3, h4⟩ := h2
  have e : ∀ {x s : Rat}, x = -s → rabs x ≤ K + 5 * m + 0 → rabs s ≤ 5 * m + K := fun {x s} e h => by rw [e, rabs_neg] at h; grind
  exact ⟨e (by grind) h1, e (by grind) h2, e (by grind) h3, e (by grind) h4⟩

/-- Whether a block is of the plain form. -/
def plainB (A B C D : Int) : Bool := decide (mag C = 0) || (decide (A = D) && (!decide (mag B = 0) && (neg B != neg C)))
theorem plainB_iff {A B C D : Int} : plainB A B C D = true ↔ mag C = 0 ∨ A = D ∧ mag B ≠ 0 ∧ neg B ≠ neg C := by
  unfold plainB; simp
theorem Plain_ev {A B C D : Int} (uB : U B) (uC : U C) : Ev (fun k => block_Two_Plain.f k A B C D) (plainB A B C D) := by
  have kz : ∀ {w : Int}, kindOf (w % 9223372036854775808) = 1 ↔ mag w = 0 := fun {w} => by rw [kind1]; rfl
  unfold block_Two_Plain.f
  refine Ev.bind (word_Kind_ev uC) ?_
  by_cases c : mag C = 0
  · have e : plainB A B C D = true := by unfold plainB; simp [c]
    rw [e]; exact Ev.pos (kz.mpr c) (Ev.now _)
  · refine Ev.neg (fun h => c (kz.mp h)) ?_
    by_cases a : A = D
    · refine Ev.pos a (Ev.bind (word_Kind_ev uB) ?_)
      by_cases b : mag B = 0
      · have e : plainB A B C D = false := by unfold plainB; simp [b, c]
        rw [e]; exact Ev.pos (kz.mpr b) (Ev.now _)
      · have e : plainB A B C D = (neg B != neg C) := by unfold plainB; simp [a, b, c]
        rw [e]; exact Ev.neg (fun h => b (kz.mp h)) (Ev.call (word_Neg_neg uB) (Ev.call (word_Neg_neg uC) (Ev.now _)))
    · have e : plainB A B C D = false := by unfold plainB; simp [a, c]
      rw [e]; exact Ev.neg a (Ev.now _)
theorem wn' {x : Nat} (h : x ≤ 100) : wrap64 ((x : Int) + 1) = ((x + 1 : Nat) : Int) := by rw [w64 (by omega) (by omega)]; omega
section
variable {A B C D F : Int} {ρ : Int × Int × Int × Int × Int × Int × Int × Int}
theorem S0_step {l : List Int} (hl : l.length = 4) {i : Nat} (hi : i < 4) (hu : U (rd l (i : Int))) (hf : fin (rd l (i : Int))) (h : Ev (fun k => block_Standard.l0 k l 4 ((i + 1 : Nat) : Int) A B C D 0 4607182418800017408) ρ) : Ev (fun k => block_Standard.l0 k l 4 (i : Int) A B C D 0 4607182418800017408) ρ := by
  refine Ev.succ ?_
  simp only [block_Standard.l0, wn' (show i ≤ 100 by omega)]
  exact Ev.pos (by omega) (Ev.pos (by omega) (Ev.pos (by omega) (Ev.call (word_Finite_eq hu) (Ev.pos (decide_eq_true hf) h))))
theorem S1_step {e : Int} {l : List Int} (hl : l.length = 4) {i : Nat} (hi : i < 4) (hu : U (rd l (i : Int))) (h : Ev (fun k => block_Standard.l1 k (l.set i (fls (rd l (i : Int)))) 4 ((i + 1 : Nat) : Int) e) ρ) : Ev (fun k => block_Standard.l1 k l 4 (i : Int) e) ρ := by
  refine Ev.succ ?_
  simp only [block_Standard.l1, wn' (show i ≤ 100 by omega), Int.toNat_natCast]
  refine Ev.pos (by omega) (Ev.pos (by omega) (Ev.pos (by omega) (Ev.call (word_Abs_mag hu) ?_)))
  unfold fls at h
  by_cases c : mag (rd l (i : Int)) < 2355382605114769408
  · rw [if_pos c] at h
    exact Ev.pos c h
  · rw [if_neg c] at h
    have e : l.set i (rd l (i : Int)) = l := by rw [rd_at (by omega)]; exact List.set_getElem_self (by omega)
    rw [e] at h
    exact Ev.neg c h
end
theorem S1_ev {a b c d e : Int} {ρ : Int × Int × Int × Int × Int × Int × Int × Int} (ua : U a) (ub : U b) (uc : U c) (ud : U d)
    (h : Ev (fun k => block_Standard.l1 k [fls a, fls b, fls c, fls d] 4 4 e) ρ) : Ev (fun k => block_Standard.l1 k [a, b, c, d] 4 0 e) ρ := by
  refine S1_step (i := 0) rfl (by decide) ua ?_
  refine S1_step (l := [fls a, b, c, d]) (i := 1) rfl (by decide) ub ?_
  refine S1_step (l := [fls a, fls b, c, d]) (i := 2) rfl (by decide) uc ?_
  refine S1_step (l := [fls a, fls b, fls c, d]) (i := 3) rfl (by decide) ud ?_
  exact h
theorem back_ev {x e F : Int} (ux : U x) : Ev (fun k => block_Standard_1.f k x F e) ((sc e x).1, Go.bits .or .u8 F (sc e x).2, e) := by
  unfold block_Standard_1.f
  exact Ev.bind (sc_ev ux) (Ev.call (show soft_Calc_Note.f F _ _ = some (_, Go.bits .or .u8 F _) from rfl) (Ev.now _))
/-- The answer. -/
theorem Standard_words {A B C D : Int} (uA : U A) (uB : U B) (uC : U C) (uD : U D) (fA : fin A) (fB : fin B) (fC : fin C) (fD : fin D) :
    ∃ tc ts sA sB sC sD F : Int, Ev (fun k => block_Standard.f k A B C D) (tc, ts, sA, sB, sC, sD, F, 0) ∧ U tc ∧ U ts ∧ U sA ∧ U sB ∧ U sC ∧ U sD ∧ fin tc ∧ fin ts ∧
    rabs (val tc * val tc + val ts * val ts - 1) ≤ 45 * ulp ∧ plainB sA sB sC sD = true ∧
    ∃ m : Rat, 0 ≤ m ∧ rabs (val A) ≤ m ∧ rabs (val B) ≤ m ∧ rabs (val C) ≤ m ∧ rabs (val D) ≤ m ∧ (m = rabs (val A) ∨ m = rabs (val B) ∨ m = rabs (val C) ∨ m = rabs (val D)) ∧
    (1 ≤ m → m ≤ pw 100 → Go.bits .and .u8 F 6 = 0) ∧
    (Go.bits .and .u8 F 6 = 0 → fin sA ∧ fin sB ∧ fin sC ∧ fin sD ∧ Near (val tc) (val ts) (val A) (val B) (val C) (val D) (val sA) (val sB) (val sC) (val sD) (170 * (ulp * m))) ∧
    (mag sC = 0 ∨ (val A - val D) * (val A - val D) / 4 + val B * val C ≤ 70 * (ulp * (m * m))) := by
  have u := u_small
  have F0 : fin 0 := by decide
  have U0 : U 0 := ⟨by decide, by decide⟩
  have v0 : val 0 = 0 := by decide +kernel
  have hl : ∀ x ∈ [A, B, C, D], U x ∧ fin x := by
    intro x hx
    simp only [List.mem_cons, List.not_mem_nil, or_false] at hx
    rcases hx with rfl | rfl | rfl | rfl
    · exact ⟨uA, fA⟩
    · exact ⟨uB, fB⟩
    · exact ⟨uC, fC⟩
    · exact ⟨uD, fD⟩
  obtain ⟨M, j, eg, M0, M1, hmax, hat, hz, hp⟩ := power_fin hl (by simp)
  have le : ∀ x ∈ [A, B, C, D], rabs (val x) ≤ vm M := fun x hx => by rw [rabs_val]; exact vm_mono mag_lt.1 (hmax x hx)
  have lA := le A (by simp)
  have lB := le B (by simp)
  have lC := le C (by simp)
  have lD := le D (by simp)
  have start : ∀ {ρ : Int × Int × Int × Int × Int × Int × Int × Int}, Ev (fun k => block_Standard.l0 k [A, B, C, D] 4 ((4 : Nat) : Int) A B C D 0 4607182418800017408) ρ → Ev (fun k => block_Standard.f k A B C D) ρ := fun {ρ} h => by
    unfold block_Standard.f
    refine Ev.call rfl ?_
    show Ev (fun k => block_Standard.l0 k [A, B, C, D] 4 ((0 : Nat) : Int) A B C D 0 4607182418800017408) _
    exact S0_step rfl (by decide) uA fA (S0_step rfl (by decide) uB fB (S0_step rfl (by decide) uC fC (S0_step rfl (by decide) uD fD h)))
  by_cases M0' : M = 0
  · -- all noughts
    have z : ∀ {x : Int}, rabs (val x) ≤ vm M → val x = 0 := fun {x} h => by
      rw [M0', vm_zero] at h
      refine Classical.byContradiction fun hx => ?_
      have := rabs_pos hx
      grind
    have zA := z lA
    have zB := z lB
    have zC := z lC
    have zD := z lD
    have vz : vm M = 0 := by rw [M0', vm_zero]
    refine ⟨4607182418800017408, 0, A, B, 0, D, 0, start ?_, U_one, U0, uA, uB, U0, uD, fin_one, F0, ?_, plainB_iff.mpr (.inl rfl), 0, Rat.le_refl, by rw [zA, rabs_zero]; exact Rat.le_refl, by rw [zB, rabs_zero]; exact Rat.le_refl, by rw [zC, rabs_zero]; exact Rat.le_refl, by rw [zD, rabs_zero]; exact Rat.le_refl, .inl (by rw [zA, rabs_zero]), fun _ _ => (by decide), fun _ => ⟨fA, fB, F0, fD, ?_⟩, .inl rfl⟩
    · refine Ev.succ ?_
      simp only [block_Standard.l0]
      exact Ev.neg (by decide) (Ev.call rfl (Ev.bind (hz M0') (Ev.neg (by decide) (Ev.now _))))
    · rw [val_one, v0, show (1 : Rat) * 1 + 0 * 0 - 1 = 0 by grind, rabs_zero]; grind
    · rw [zA, zB, zC, zD, v0]
      have e : rabs (0 : Rat) ≤ 170 * (ulp * 0) := by rw [rabs_zero]; grind
      refine ⟨?_, ?_, ?_, ?_⟩
      · rw [show val 4607182418800017408 * (val 4607182418800017408 * 0 + 0 * 0) + 0 * (val 4607182418800017408 * 0 + 0 * 0) - 0 = 0 by grind]; exact e
      · rw [show val 4607182418800017408 * (val 4607182418800017408 * 0 + 0 * 0) - 0 * (val 4607182418800017408 * 0 + 0 * 0) - 0 = 0 by grind]; exact e
      · rw [show val 4607182418800017408 * (val 4607182418800017408 * 0 - 0 * 0) + 0 * (val 4607182418800017408 * 0 - 0 * 0) - 0 = 0 by grind]; exact e
      · rw [show val 4607182418800017408 * (val 4607182418800017408 * 0 - 0 * 0) - 0 * (val 4607182418800017408 * 0 - 0 * 0) - 0 = 0 by grind]; exact e
  obtain ⟨e, ep, e0, e1, pe, pe1⟩ := hp (by omega)
  have p := pw_pos (-e)
  have pe0 := pw_pos e
  have pme : pw e * pw (-e) = 1 := by rw [Rat.mul_comm]; exact pw_neg_mul e
  obtain ⟨μ, hμ⟩ : ∃ μ, μ = vm M * pw (-e) := ⟨_, rfl⟩
  have mμ : vm M = μ * pw e := by rw [hμ, Rat.mul_assoc, Rat.mul_comm (pw (-e)), pme, Rat.mul_one]
  have μ1 : 1 ≤ μ := by
    have := Rat.mul_le_mul_of_nonneg_right pe (Rat.le_of_lt p)
    rw [pme] at this
    rw [hμ]; exact this
  have μ2 : μ ≤ 2 := by
    have := Rat.mul_le_mul_of_nonneg_right (Rat.le_of_lt pe1) (Rat.le_of_lt p)
    have e2 : pw (e + 1) * pw (-e) = 2 := by rw [pw_succ, Rat.mul_assoc, pme, Rat.mul_one]
    rw [e2] at this
    rw [hμ]; exact this
  have sz : ∀ {x : Int}, rabs (val x) ≤ vm M → rabs (val x) * pw (-e) ≤ μ := fun {x} h => by rw [hμ]; exact Rat.mul_le_mul_of_nonneg_right h (Rat.le_of_lt p)
  obtain ⟨mA, kA, dA⟩ := fl_mid (e := e) uA fA (by omega) (by omega) (sz lA) μ2
  obtain ⟨mB, kB, dB⟩ := fl_mid (e := e) uB fB (by omega) (by omega) (sz lB) μ2
  obtain ⟨mC, kC, dC⟩ := fl_mid (e := e) uC fC (by omega) (by omega) (sz lC) μ2
  obtain ⟨mD, kD, dD⟩ := fl_mid (e := e) uD fD (by omega) (by omega) (sz lD) μ2
  obtain ⟨a, ha⟩ : ∃ a, a = fls (sc (-e) A).1 := ⟨_, rfl⟩
  obtain ⟨b, hb⟩ : ∃ b, b = fls (sc (-e) B).1 := ⟨_, rfl⟩
  obtain ⟨c, hc⟩ : ∃ c, c = fls (sc (-e) C).1 := ⟨_, rfl⟩
  obtain ⟨d, hd⟩ : ∃ d, d = fls (sc (-e) D).1 := ⟨_, rfl⟩
  rw [← ha] at mA kA dA
  rw [← hb] at mB kB dB
  rw [← hc] at mC kC dC
  rw [← hd] at mD kD dD
  obtain ⟨tc, ts, qA, qB, qC, qD, evs, utc, uts, uqA, uqB, uqC, uqD, ftc, fts, gA, gB, gC, gD, O, N, P⟩ := standard_words mA mB mC mD μ1 μ2 kA kB kC kD
  have un := unit_ev (l := [A, B, C, D]) (fun x hx => (hl x hx).1) (by simp) (show -20000 ≤ e by omega) (by omega)
  have plain : plainB qA qB qC qD = true := by
    rw [plainB_iff]
    rcases P with P | ⟨⟨P1, P2, P3⟩, _⟩
    · left; rw [P]; rfl
    · exact .inr ⟨P1, fun h => P2 (val_zero_iff.mpr h), P3⟩
  have cc : rabs (val tc) ≤ 1001 / 1000 := le_of_sq (by grind) (by have := absle.mp O; have := sq_nn (val ts); grind)
  have nn : rabs (val ts) ≤ 1001 / 1000 := le_of_sq (by grind) (by have := absle.mp O; have := sq_nn (val tc); grind)
  have e1' : -10000 ≤ e := by omega
  have e2' : e ≤ 10000 := by omega
  -- back
  obtain ⟨F, hF⟩ : ∃ F, F = Go.bits .or .u8 (Go.bits .or .u8 (Go.bits .or .u8 (Go.bits .or .u8 0 (sc e qA).2) (sc e qB).2) (sc e qC).2) (sc e qD).2 := ⟨_, rfl⟩
  have fin6 : Go.bits .and .u8 F 6 = 0 → (fin (sc e qA).1 ∧ rabs (val (sc e qA).1 - val qA * pw e) ≤ ulp * rabs (val qA * pw e)) ∧ (fin (sc e qB).1 ∧ rabs (val (sc e qB).1 - val qB * pw e) ≤ ulp * rabs (val qB * pw e)) ∧ (fin (sc e qC).1 ∧ rabs (val (sc e qC).1 - val qC * pw e) ≤ ulp * rabs (val qC * pw e)) ∧ (fin (sc e qD).1 ∧ rabs (val (sc e qD).1 - val qD * pw e) ≤ ulp * rabs (val qD * pw e)) := fun h => by
    rw [hF] at h
    have a1 := sc_flags (e := e) uqA e1' e2'
    have a2 := sc_flags (e := e) uqB e1' e2'
    have a3 := sc_flags (e := e) uqC e1' e2'
    have a4 := sc_flags (e := e) uqD e1' e2'
    obtain ⟨h, x1, x2⟩ := flag_or' (F8_or _ _) a4.1 a4.2 h
    obtain ⟨h, x3, x4⟩ := flag_or' (F8_or _ _) a3.1 a3.2 h
    obtain ⟨h, x5, x6⟩ := flag_or' (F8_or _ _) a2.1 a2.2 h
    obtain ⟨h, x7, x8⟩ := flag_or' F8_0 a1.1 a1.2 h
    exact ⟨sc_back uqA gA e1' e2' x7 x8, sc_back uqB gB e1' e2' x5 x6, sc_back uqC gC e1' e2' x3 x4, sc_back uqD gD e1' e2' x1 x2⟩
  have ev : ∀ {ρ : Int × Int × Int × Int × Int × Int × Int × Int}, Ev (fun _ => (if plainB (sc e qA).1 (sc e qB).1 (sc e qC).1 (sc e qD).1 = true then some (tc, ts, (sc e qA).1, (sc e qB).1, (sc e qC).1, (sc e qD).1, F, (0 : Int)) else some (tc, ts, (sc e qA).1, (sc e qB).1, (0 : Int), (sc e qD).1, F, (0 : Int)))) ρ → Ev (fun k => block_Standard.f k A B C D) ρ := fun {ρ} h => by
    refine start (Ev.succ ?_)
    simp only [block_Standard.l0]
    refine Ev.neg (by decide) (Ev.call rfl (Ev.bind ep (Ev.pos (by trivial) (Ev.call rfl (Ev.bind un ?_)))))
    show Ev (fun k => block_Standard.l1 k [(sc (-e) A).1, (sc (-e) B).1, (sc (-e) C).1, (sc (-e) D).1] 4 0 e) ρ
    refine S1_ev (sc_U uA) (sc_U uB) (sc_U uC) (sc_U uD) ?_
    rw [← ha, ← hb, ← hc, ← hd]
    refine Ev.succ ?_
    simp only [block_Standard.l1]
    rw [hF] at h
    exact Ev.neg (by decide) (Ev.pos (show (0 : Int) < 4 by decide) (Ev.pos (show (1 : Int) < 4 by decide) (Ev.pos (show (2 : Int) < 4 by decide) (Ev.pos (show (3 : Int) < 4 by decide) (Ev.bind evs (Ev.bind (back_ev uqA) (Ev.bind (back_ev uqB) (Ev.bind (back_ev uqC) (Ev.bind (back_ev uqD) (Ev.bind (Plain_ev (sc_U uqB) (sc_U uqC)) h))))))))))
  -- how near
  have near : Go.bits .and .u8 F 6 = 0 → Near (val tc) (val ts) (val A) (val B) (val C) (val D) (val (sc e qA).1) (val (sc e qB).1) (val (sc e qC).1) (val (sc e qD).1) (170 * (ulp * vm M)) := fun h => by
    obtain ⟨⟨_, rA⟩, ⟨_, rB⟩, ⟨_, rC⟩, ⟨_, rD⟩⟩ := fin6 h
    have um := uu (show 0 ≤ μ by grind)
    obtain ⟨zA, zB, zC, zD⟩ := near_size N cc nn kA kB kC kD (by grind)
    have q : ∀ {x : Rat}, rabs x ≤ 5 * μ + 150 * (ulp * μ) → ulp * rabs (x * pw e) ≤ 6 * (ulp * vm M) := fun {x} h => by
      rw [rabs_mul, rabs_of_nonneg (Rat.le_of_lt pe0)]
      have a1 := Rat.mul_le_mul_of_nonneg_right (show rabs x ≤ 6 * μ by grind) (Rat.le_of_lt pe0)
      have a2 := uul a1
      rw [mμ]; grind
    have k := near_move (near_scale N (Rat.le_of_lt pe0)) cc nn (show 0 ≤ pw (-499) * pw e from Rat.mul_nonneg (Rat.le_of_lt (pw_pos _)) (Rat.le_of_lt pe0)) dA dB dC dD (Rat.le_trans rA (q zA)) (Rat.le_trans rB (q zB)) (Rat.le_trans rC (q zC)) (Rat.le_trans rD (q zD))
    refine near_mono k ?_
    have e499 : 5 * pw (-499) ≤ ulp := by decide +kernel
    have a1 := Rat.mul_le_mul_of_nonneg_right e499 (Rat.le_of_lt pe0)
    have a2 := Rat.mul_le_mul_of_nonneg_right μ1 (Rat.le_of_lt pe0)
    have a3 := uul a2
    have a4 : 150 * (ulp * μ) * pw e = 150 * (ulp * vm M) := by rw [mμ]; grind
    rw [a4]
    have a5 : 0 ≤ ulp * vm M := by rw [mμ]; exact Rat.mul_nonneg (by grind) (Rat.mul_nonneg (by grind) (Rat.le_of_lt pe0))
    rw [mμ] at *
    grind
  have vmax : vm M = rabs (val A) ∨ vm M = rabs (val B) ∨ vm M = rabs (val C) ∨ vm M = rabs (val D) := by
    rcases hat with h | ⟨x, hx, h⟩
    · exact absurd h M0'
    · have hv : vm M = rabs (val x) := by rw [rabs_val, h]
      simp only [List.mem_cons, List.not_mem_nil, or_false] at hx
      rcases hx with rfl | rfl | rfl | rfl
      · exact .inl hv
      · exact .inr (.inl hv)
      · exact .inr (.inr (.inl hv))
      · exact .inr (.inr (.inr hv))
  have vM0 := vm_nonneg M0
  -- no flags
  have quiet : 1 ≤ vm M → vm M ≤ pw 100 → Go.bits .and .u8 F 6 = 0 := fun h1 h2 => by
    have p1 : 0 ≤ e := by
      have h3 : pw 0 < pw (e + 1) := by rw [pw_zero]; grind
      have h4 : ¬ pw (e + 1) ≤ pw 0 := by grind
      rw [pw_le_iff] at h4
      omega
    have p2 : e ≤ 100 := pw_le_iff.mp (Rat.le_trans pe h2)
    have um := uu (show 0 ≤ μ by grind)
    obtain ⟨zA, zB, zC, zD⟩ := near_size N cc nn kA kB kC kD (by grind)
    rw [hF, sc_up uqA gA p1 p2 (by grind), sc_up uqB gB p1 p2 (by grind), sc_up uqC gC p1 p2 (by grind), sc_up uqD gD p1 p2 (by grind)]
    decide
  -- the kinds
  have kinds : ∀ {w : Int}, (qC = 0 → mag w = 0) → mag w = 0 ∨ (val A - val D) * (val A - val D) / 4 + val B * val C ≤ 70 * (ulp * (vm M * vm M)) := fun {w} hw => by
    rcases P with P | ⟨_, P⟩
    · exact .inl (hw P)
    · right
      have t1 : ∀ {x a : Int}, rabs (val x - val a * pw e) ≤ pw (-499) * pw e → rabs (val x * pw (-e) - val a) ≤ pw (-499) := fun {x a} h => by
        have h2 := Rat.mul_le_mul_of_nonneg_right h (Rat.le_of_lt p)
        have e3 : val x * pw (-e) - val a = (val x - val a * pw e) * pw (-e) := by
          have : val a * pw e * pw (-e) = val a := by rw [Rat.mul_assoc, pme, Rat.mul_one]
          grind
        have e4 : pw (-499) * pw e * pw (-e) = pw (-499) := by rw [Rat.mul_assoc, pme, Rat.mul_one]
        rw [e3, rabs_mul, rabs_of_nonneg (Rat.le_of_lt p)]
        rw [e4] at h2
        exact h2
      have sA := t1 dA
      have sB := t1 dB
      have sC := t1 dC
      have sD := t1 dD
      have w : ∀ {x : Int}, rabs (val x) ≤ vm M → rabs (val x * pw (-e)) ≤ 2 := fun {x} h => by
        rw [rabs_mul, rabs_of_nonneg (Rat.le_of_lt p)]
        have := sz h
        grind
      have wA := w lA
      have wC := w lC
      have wD := w lD
      have back : ∀ {x : Int}, val x = val x * pw (-e) * pw e := fun {x} => by rw [Rat.mul_assoc, Rat.mul_comm (pw (-e)), pme, Rat.mul_one]
      obtain ⟨A', hA'⟩ : ∃ A', A' = val A * pw (-e) := ⟨_, rfl⟩
      obtain ⟨B', hB'⟩ : ∃ B', B' = val B * pw (-e) := ⟨_, rfl⟩
      obtain ⟨C', hC'⟩ : ∃ C', C' = val C * pw (-e) := ⟨_, rfl⟩
      obtain ⟨D', hD'⟩ : ∃ D', D' = val D * pw (-e) := ⟨_, rfl⟩
      have bA : val A = A' * pw e := by rw [hA']; exact back
      have bB : val B = B' * pw e := by rw [hB']; exact back
      have bC : val C = C' * pw e := by rw [hC']; exact back
      have bD : val D = D' * pw e := by rw [hD']; exact back
      rw [← hA'] at sA wA
      rw [← hB'] at sB
      rw [← hC'] at sC wC
      rw [← hD'] at sD wD
      rw [bA, bB, bC, bD, mμ]
      have tt : 10 * pw (-499) ≤ ulp := by decide +kernel
      have ta : rabs ((A' - D') - (val a - val d)) ≤ 2 * pw (-499) := by
        have := absle.mp sA; have := absle.mp sD
        rw [absle]; grind
      have tb : rabs ((A' - D') + (val a - val d)) ≤ 8 := by
        have := absle.mp wA; have := absle.mp wD; have := absle.mp mA.2.2.2; have := absle.mp mD.2.2.2
        rw [absle]; grind
      have q1 := mulB ta tb
      have q2 := mulB sB wC
      have q3 := mulB mB.2.2.2 sC
      have i1 : (A' - D') * (A' - D') = (val a - val d) * (val a - val d) + ((A' - D') - (val a - val d)) * ((A' - D') + (val a - val d)) := by grind
      have i2 : B' * C' = val b * val c + (B' - val b) * C' + val b * (C' - val c) := by grind
      have r : (A' - D') * (A' - D') / 4 + B' * C' ≤ 61 * ulp := by
        have h1 := (absle.mp q1).2
        have h2 := (absle.mp q2).2
        have h3 := (absle.mp q3).2
        rw [i1, i2]
        generalize ((A' - D') - (val a - val d)) * ((A' - D') + (val a - val d)) = w1 at *
        generalize (B' - val b) * C' = w2 at *
        generalize val b * (C' - val c) = w3 at *
        generalize (val a - val d) * (val a - val d) = w4 at *
        generalize val b * val c = w5 at *
        grind
      have K0 : 0 ≤ pw e * pw e := sq_nn _
      have s1 := Rat.mul_le_mul_of_nonneg_right r K0
      have s2 : 1 ≤ μ * μ := by
        have := Rat.mul_le_mul_of_nonneg_right μ1 (show 0 ≤ μ by grind)
        grind
      have s3 := Rat.mul_le_mul_of_nonneg_right s2 K0
      have s4 := uul s3
      have i3 : (A' * pw e - D' * pw e) * (A' * pw e - D' * pw e) / 4 + B' * pw e * (C' * pw e) = ((A' - D') * (A' - D') / 4 + B' * C') * (pw e * pw e) := by grind
      have i4 : 70 * (ulp * (μ * pw e * (μ * pw e))) = 70 * (ulp * (μ * μ * (pw e * pw e))) := by grind
      rw [i3, i4]
      have s5 : 0 ≤ ulp * (pw e * pw e) := Rat.mul_nonneg (Rat.le_of_lt u.1) K0
      generalize ((A' - D') * (A' - D') / 4 + B' * C') * (pw e * pw e) = w1 at *
      generalize pw e * pw e = w2 at *
      grind
  by_cases pl : plainB (sc e qA).1 (sc e qB).1 (sc e qC).1 (sc e qD).1 = true
  · refine ⟨tc, ts, _, _, _, _, F, ev (Ev.pos pl (Ev.now _)), utc, uts, sc_U uqA, sc_U uqB, sc_U uqC, sc_U uqD, ftc, fts, O, pl, vm M, vM0, lA, lB, lC, lD, vmax, quiet, fun h => ?_, kinds fun h => ?_⟩
    · obtain ⟨⟨g1, _⟩, ⟨g2, _⟩, ⟨g3, _⟩, ⟨g4, _⟩⟩ := fin6 h
      exact ⟨g1, g2, g3, g4, near h⟩
    · have m0 : mag qC = 0 := by rw [h]; rfl
      rcases sc_Rd uqC gC e1' e2' with ⟨_, h2, _⟩ | ⟨h2, _⟩
      · rw [h2]; exact m0
      · exact absurd m0 h2
  · refine ⟨tc, ts, _, _, 0, _, F, ev (Ev.neg pl (Ev.now _)), utc, uts, sc_U uqA, sc_U uqB, U0, sc_U uqD, ftc, fts, O, plainB_iff.mpr (.inl rfl), vm M, vM0, lA, lB, lC, lD, vmax, quiet, fun h => ?_, .inl rfl⟩
    -- not so without such flags
    exfalso
    obtain ⟨⟨g1, r1⟩, ⟨g2, r2⟩, ⟨g3, r3⟩, ⟨g4, r4⟩⟩ := fin6 h
    refine pl (plainB_iff.mpr ?_)
    rcases plainB_iff.mp plain with m0 | ⟨p1, p2, p3⟩
    · left
      rcases sc_Rd uqC gC e1' e2' with ⟨_, h2, _⟩ | ⟨h2, _⟩
      · rw [h2]; exact m0
      · exact absurd m0 h2
    · refine .inr ⟨by rw [p1], fun h0 => ?_, ?_⟩
      · have := (near_nz r2).mp (val_zero_iff.mpr h0)
        rcases Rat.mul_eq_zero.mp this with h | h
        · exact p2 (val_zero_iff.mp h)
        · exact pw_ne _ h
      · rw [sc_neg uqB gB e1' e2', sc_neg uqC gC e1' e2']; exact p3
end Gim
namespace Gim
set_option linter.unusedVariables false

/-- The whole number of a list of digits. -/
def nv : List Int → Int
  | [] => 0
  | d :: l => d + 4294967296 * nv l
def Dig (l : List Int) : Prop := ∀ x ∈ l, 0 ≤ x ∧ x < 4294967296
/-- 2^(32 n). -/
def bp (n : Nat) : Int := 4294967296 ^ n
theorem bp_zero : bp 0 = 1 := rfl
theorem bp_succ (n : Nat) : bp (n + 1) = 4294967296 * bp n := by unfold bp; rw [Int.pow_succ, Int.mul_comm]
theorem bp_pos (n : Nat) : 0 < bp n := by unfold bp; exact Int.pow_pos (by decide)
theorem bp_add (m n : Nat) : bp (m + n) = bp m * bp n := by unfold bp; exact Int.pow_add _ _ _
theorem bp_mono {m n : Nat} (h : m ≤ n) : bp m ≤ bp n := by
  obtain ⟨k, rfl⟩ : ∃ k, n = m + k := ⟨n - m, by omega⟩
  rw [bp_add]
  have h1 := bp_pos m
  have h2 := bp_pos k
  have := Int.mul_le_mul_of_nonneg_left (show 1 ≤ bp k by omega) (Int.le_of_lt h1)
  omega
theorem bp_pw (n : Nat) : ((bp n : Int) : Rat) = pw (32 * n) := by
  have : bp n = 2 ^ (32 * n) := by unfold bp; rw [Int.pow_mul]; rfl
  have e : ((32 * (n : Int)) : Int) = ((32 * n : Nat) : Int) := by omega
  rw [this, e, pw_nat]
theorem nv_cons (d : Int) (l : List Int) : nv (d :: l) = d + 4294967296 * nv l := rfl
theorem nv_append (l l' : List Int) : nv (l ++ l') = nv l + bp l.length * nv l' := by
  induction l with
  | nil => simp [nv, bp_zero]
  | cons d l ih =>
    rw [List.cons_append, nv_cons, nv_cons, ih, List.length_cons, bp_succ]
    grind
theorem nv_snoc (l : List Int) (d : Int) : nv (l ++ [d]) = nv l + bp l.length * d := by rw [nv_append]; simp [nv]
theorem Dig.nil : Dig [] := by intro x hx; cases hx
theorem Dig.cons {d : Int} {l : List Int} (h : Dig (d :: l)) : (0 ≤ d ∧ d < 4294967296) ∧ Dig l := ⟨h d List.mem_cons_self, fun x hx => h x (List.mem_cons_of_mem _ hx)⟩
theorem Dig.mk {d : Int} {l : List Int} (h0 : 0 ≤ d) (h1 : d < 4294967296) (h : Dig l) : Dig (d :: l) := by
  intro x hx
  rcases List.mem_cons.mp hx with rfl | hx
  · exact ⟨h0, h1⟩
  · exact h x hx
theorem Dig.append {l l' : List Int} (h : Dig l) (h' : Dig l') : Dig (l ++ l') := by
  intro x hx
  rcases List.mem_append.mp hx with hx | hx
  · exact h x hx
  · exact h' x hx
theorem Dig.one {d : Int} (h0 : 0 ≤ d) (h1 : d < 4294967296) : Dig [d] := Dig.mk h0 h1 Dig.nil
theorem Dig.take {l : List Int} (h : Dig l) (n : Nat) : Dig (l.take n) := fun x hx => h x (List.mem_of_mem_take hx)
theorem Dig.drop {l : List Int} (h : Dig l) (n : Nat) : Dig (l.drop n) := fun x hx => h x (List.mem_of_mem_drop hx)
theorem Dig.set {l : List Int} (h : Dig l) (i : Nat) {v : Int} (h0 : 0 ≤ v) (h1 : v < 4294967296) : Dig (l.set i v) := by
  intro x hx
  rcases List.mem_or_eq_of_mem_set hx with hx | hx
  · exact h x hx
  · rw [hx]; exact ⟨h0, h1⟩
theorem Dig.get {l : List Int} (h : Dig l) {i : Nat} (hi : i < l.length) : 0 ≤ l[i] ∧ l[i] < 4294967296 := h _ (List.getElem_mem hi)
theorem nv_bounds {l : List Int} (h : Dig l) : 0 ≤ nv l ∧ nv l < bp l.length := by
  induction l with
  | nil => exact ⟨Int.le_refl _, by rw [List.length_nil, bp_zero]; decide⟩
  | cons d l ih =>
    obtain ⟨⟨h0, h1⟩, h2⟩ := h.cons
    obtain ⟨a, b⟩ := ih h2
    rw [nv_cons, List.length_cons, bp_succ]
    omega
theorem nv_take_drop (l : List Int) (n : Nat) (h : n ≤ l.length) : nv l = nv (l.take n) + bp n * nv (l.drop n) := by
  have := nv_append (l.take n) (l.drop n)
  rwa [List.take_append_drop, List.length_take, Nat.min_eq_left h] at this
theorem nv_take_succ {l : List Int} {i : Nat} (h : i < l.length) : nv (l.take (i + 1)) = nv (l.take i) + bp i * l[i] := by
  rw [List.take_succ_eq_append_getElem h, nv_snoc, List.length_take, Nat.min_eq_left (by omega)]
theorem nv_inj {l l' : List Int} (h : Dig l) (h' : Dig l') (hl : l.length = l'.length) (e : nv l = nv l') : l = l' := by
  induction l generalizing l' with
  | nil => cases l' with
    | nil => rfl
    | cons d l => simp at hl
  | cons d l ih =>
    cases l' with
    | nil => simp at hl
    | cons d' l' =>
      obtain ⟨⟨a, b⟩, c⟩ := h.cons
      obtain ⟨⟨a', b'⟩, c'⟩ := h'.cons
      rw [nv_cons, nv_cons] at e
      have e1 : d = d' := by omega
      subst e1
      rw [ih c c' (by simpa using hl) (by omega)]
/-- Nothing but the number: no nought on top. -/
def Top (l : List Int) : Prop := l ≠ [] → bp (l.length - 1) ≤ nv l
theorem Top.length_le {l : List Int} (h : Top l) {n : Nat} (hn : nv l < bp n) : l.length ≤ n := by
  by_cases he : l = []
  · subst he; simp
  · have h1 := h he
    refine Decidable.byContradiction fun hc => ?_
    have := bp_mono (show n ≤ l.length - 1 by omega)
    omega
theorem Top.inj {l l' : List Int} (h : Dig l) (h' : Dig l') (t : Top l) (t' : Top l') (e : nv l = nv l') : l = l' := by
  have b := nv_bounds h
  have b' := nv_bounds h'
  have h1 := t.length_le (n := l'.length) (by omega)
  have h2 := t'.length_le (n := l.length) (by omega)
  exact nv_inj h h' (by omega) e
theorem Top.of_last {l : List Int} (h : Dig l) (hl : 0 < l.length) (hz : l[l.length - 1]'(by omega) ≠ 0) : Top l := by
  intro _
  have h1 := nv_take_succ (l := l) (i := l.length - 1) (by omega)
  rw [show l.length - 1 + 1 = l.length by omega, List.take_length] at h1
  have h2 := (nv_bounds (h.take (l.length - 1))).1
  have h3 := h.get (i := l.length - 1) (by omega)
  have h4 := bp_pos (l.length - 1)
  have : bp (l.length - 1) * 1 ≤ bp (l.length - 1) * l[l.length - 1] := Int.mul_le_mul_of_nonneg_left (by omega) (by omega)
  omega
theorem nv_pos {l : List Int} (t : Top l) (he : l ≠ []) : 0 < nv l := by
  have := t he
  have := bp_pos (l.length - 1)
  omega
/-- A nought on top may go. -/
theorem nv_last_zero {l : List Int} (hl : 0 < l.length) (hz : l[l.length - 1]'(by omega) = 0) : nv (l.take (l.length - 1)) = nv l := by
  have h1 := nv_take_succ (l := l) (i := l.length - 1) (by omega)
  rw [show l.length - 1 + 1 = l.length by omega, List.take_length, hz] at h1
  omega
theorem bp_even (n : Nat) (h : 0 < n) : bp n % 2 = 0 := by
  obtain ⟨k, rfl⟩ : ∃ k, n = k + 1 := ⟨n - 1, by omega⟩
  rw [bp_succ]; omega

/-- A number's digits, divided by P, where P times Q is 2^32. -/
def dn (P Q : Int) : List Int → List Int
  | [] => []
  | a :: l => (a / P + (l.headD 0 % P) * Q) :: dn P Q l
theorem dn_length (P Q : Int) (l : List Int) : (dn P Q l).length = l.length := by
  induction l with
  | nil => rfl
  | cons a l ih => simp [dn, ih]
theorem dn_nv {P Q : Int} (hP : 0 < P) (hPQ : P * Q = 4294967296) (l : List Int) : nv (dn P Q l) * P + l.headD 0 % P = nv l := by
  induction l with
  | nil => simp [dn, nv]
  | cons a l ih =>
    have h1 := Int.emod_add_mul_ediv a P
    simp only [dn, nv_cons, List.headD_cons]
    rw [← ih]
    grind
theorem dn_get {P Q : Int} {l : List Int} {i : Nat} (h : i < l.length) : (dn P Q l)[i]'(by rw [dn_length]; exact h) = l[i] / P + (if h2 : i + 1 < l.length then l[i + 1] % P else 0) * Q := by
  induction l generalizing i with
  | nil => simp at h
  | cons a l ih =>
    cases i with
    | zero =>
      cases l with
      | nil => simp [dn]
      | cons b l => simp [dn]
    | succ i =>
      have hi : i < l.length := by simpa using h
      simp only [dn, List.getElem_cons_succ, ih hi]
      by_cases h2 : i + 1 < l.length
      · rw [dif_pos h2, dif_pos (by simpa using h2)]
      · rw [dif_neg h2, dif_neg (by simpa using h2)]
theorem dn_dig {P Q : Int} (hP : 0 < P) (hQ : 0 < Q) (hPQ : P * Q = 4294967296) {l : List Int} (h : Dig l) : Dig (dn P Q l) := by
  induction l with
  | nil => exact Dig.nil
  | cons a l ih =>
    obtain ⟨⟨h0, h1⟩, h2⟩ := h.cons
    have d0 := Int.ediv_nonneg h0 (Int.le_of_lt hP)
    have d1 : a / P < Q := Int.ediv_lt_of_lt_mul hP (by rw [Int.mul_comm]; omega)
    have r0 := Int.emod_nonneg (l.headD 0) (show P ≠ 0 by omega)
    have r1 := Int.emod_lt_of_pos (l.headD 0) hP
    have m0 := Int.mul_nonneg r0 (Int.le_of_lt hQ)
    have m1 : (l.headD 0 % P) * Q ≤ (P - 1) * Q := Int.mul_le_mul_of_nonneg_right (by omega) (Int.le_of_lt hQ)
    have m2 : (P - 1) * Q = 4294967296 - Q := by grind
    exact Dig.mk (by omega) (by omega) (ih h2)
/-- Of a list the first i stand, the others are noughts. -/
def stp (L : List Int) (i : Nat) : List Int := L.take i ++ List.replicate (L.length - i) 0
theorem stp_length {L : List Int} {i : Nat} (h : i ≤ L.length) : (stp L i).length = L.length := by simp [stp]; omega
theorem stp_zero (L : List Int) : stp L 0 = List.replicate L.length 0 := by simp [stp]
theorem stp_full (L : List Int) : stp L L.length = L := by simp [stp]
theorem stp_set {L : List Int} {i : Nat} (h : i < L.length) : (stp L i).set i L[i] = stp L (i + 1) := by
  apply List.ext_getElem
  · rw [List.length_set, stp_length (by omega), stp_length (by omega)]
  · intro x h1 h2
    have hx : x < L.length := by rw [stp_length (by omega)] at h2; exact h2
    have get : ∀ j, (hj : j ≤ L.length) → ∀ hh : x < (stp L j).length, (stp L j)[x] = if x < j then L[x] else 0 := by
      intro j hj hh
      simp only [stp]
      by_cases c : x < j
      · rw [if_pos c, List.getElem_append_left (by simp; omega)]
        simp
      · rw [if_neg c, List.getElem_append_right (by simp; omega)]
        simp
    rw [List.getElem_set, get (i + 1) (by omega) h2]
    by_cases e : i = x
    · subst e
      rw [if_pos rfl, if_pos (by omega)]
    · rw [if_neg e, get i (by omega) _]
      by_cases c : x < i
      · rw [if_pos c, if_pos (by omega)]
      · rw [if_neg c, if_neg (by omega)]
end Gim
namespace Gim
open Go Go.RowKit Go.Proofs.YtdmhepgfmickdaaDoorW.PrintWords Go.Proofs.YtdmhepgfmickdaaDoorW.PrintLast Go.Proofs.YtdmhepgfmickdaaDoorW.PrintMore Go.Proofs.YtdmhepgfmickdaaDoor.F
set_option linter.unusedVariables false

theorem wu32_mod (x : Int) : IntKind.u32.wrap x = x % 4294967296 := by simp [IntKind.wrap, IntKind.bits, IntKind.signed]
theorem wraps_u32 (n : Int) (h₀ : 0 ≤ n) (h₁ : n < 2 ^ 32) : IntKind.u32.wrap n = n := by
  rw [wu32_mod]; have : n < 4294967296 := by simpa using h₁
  omega
theorem u32_or (i : Nat) {x y : Int} (hx₀ : 0 ≤ x) (hx : x % 2 ^ i = 0) (hx₁ : x < 4294967296) (hy₀ : 0 ≤ y) (hy : y < 2 ^ i) (hy₁ : y < 4294967296) : bits .or .u32 x y = x + y :=
  bits_join .u32 32 (by decide) wraps_u32 i x y hx₀ hx (by simpa using hx₁) hy₀ hy (by simpa using hy₁)
theorem shl_u32 {x n : Int} (hn : 0 ≤ n) (hn' : n ≤ 32) : shl .u32 x n = x * p2 n % 4294967296 := by
  unfold shl p2
  rw [wu32_mod, Nat.min_eq_left (by show n.toNat ≤ 32; omega)]
theorem shr_u32 {x n : Int} (hn : 0 ≤ n) (hn' : n ≤ 32) : shr .u32 x n = x / p2 n := by
  unfold shr p2
  rw [Nat.min_eq_left (by show n.toNat ≤ 32; omega)]
theorem p2_32 : p2 32 = 4294967296 := by decide
theorem p2_split {s : Int} (h0 : 0 ≤ s) (h1 : s ≤ 32) : p2 s * p2 (32 - s) = 4294967296 := by
  rw [← p2_add h0 (by omega), show s + (32 - s) = 32 by omega, p2_32]
theorem rd_nat {l : List Int} {i : Nat} (h : i < l.length) : rd l (i : Int) = l[i] := by
  unfold rd; simp [List.getD_eq_getElem?_getD, h]
theorem rd_zero {l : List Int} (h : 0 < l.length) : rd l 0 = l[0] := rd_nat (i := 0) h
theorem p2_mod {s : Int} (h0 : 0 ≤ s) (x : Int) : (x * p2 s) % 2 ^ s.toNat = 0 := Int.mul_emod_left _ _

section
variable {m : List Int} {s : Int} (hm : Dig m) (h0 : 0 < s) (h1 : s < 32) (hl : m.length ≤ 1000000)
include hm h0 h1 hl
theorem down_l0 : ∀ n i : Nat, m.length - i = n → i ≤ m.length → ∀ r, Ev (fun K => dyad_down.l0 K m s (dn (p2 s) (p2 (32 - s)) m) m.length m.length) r →
    Ev (fun K => dyad_down.l0 K m s (stp (dn (p2 s) (p2 (32 - s)) m) i) m.length i) r := by
  intro n
  induction n with
  | zero =>
    intro i e1 e2 r hr
    obtain rfl : i = m.length := by omega
    have := stp_full (dn (p2 s) (p2 (32 - s)) m)
    rw [dn_length] at this
    rw [this]; exact hr
  | succ n ih =>
    intro i e1 e2 r hr
    have hi : i < m.length := by omega
    have hP := p2_pos s
    have hQ := p2_pos (32 - s)
    have hPQ := p2_split (s := s) (by omega) (by omega)
    have hD := dn_length (p2 s) (p2 (32 - s)) m
    have sl : (stp (dn (p2 s) (p2 (32 - s)) m) i).length = m.length := by rw [stp_length (by omega), hD]
    have hg := dn_get (P := p2 s) (Q := p2 (32 - s)) hi
    have hset := stp_set (L := dn (p2 s) (p2 (32 - s)) m) (i := i) (by omega)
    have hrec := ih (i + 1) (by omega) (by omega) r hr
    have hd := hm.get hi
    refine Ev.succ ?_
    simp only [dyad_down.l0]
    refine Ev.pos (by omega) (Ev.pos (by omega) (Ev.pos (by omega) (Ev.pos (by omega) (Ev.pos (by omega) ?_))))
    rw [rd_nat hi, shr_u32 (by omega) (by omega), Int.toNat_natCast, w64 (x := (i : Int) + 1) (by omega) (by omega)]
    by_cases h2 : i + 1 < m.length
    · refine Ev.pos (by omega) (Ev.pos (by omega) ?_)
      rw [w64 (x := 32 - s) (by omega) (by omega)]
      refine Ev.pos (by omega) ?_
      have hd2 := hm.get h2
      have e3 : rd m ((i : Int) + 1) = m[i + 1] := rd_nat (i := i + 1) h2
      have e4 : rd ((stp (dn (p2 s) (p2 (32 - s)) m) i).set i (m[i] / p2 s)) (i : Int) = m[i] / p2 s := by
        rw [rd_nat (by rw [List.length_set]; omega)]; simp
      have e5 : m[i + 1] * p2 (32 - s) % 4294967296 = (m[i + 1] % p2 s) * p2 (32 - s) := by
        rw [← hPQ, Int.mul_comm m[i + 1], Int.mul_comm (p2 s), Int.mul_emod_mul_of_pos _ _ hQ, Int.mul_comm]
      have d0 := Int.ediv_nonneg hd.1 (Int.le_of_lt hP)
      have d1 : m[i] / p2 s < p2 (32 - s) := Int.ediv_lt_of_lt_mul hP (by rw [Int.mul_comm]; omega)
      have r0 := Int.emod_nonneg m[i + 1] (show p2 s ≠ 0 by omega)
      have r1 := Int.emod_lt_of_pos m[i + 1] hP
      have m0 := Int.mul_nonneg r0 (Int.le_of_lt hQ)
      have m1 : (m[i + 1] % p2 s) * p2 (32 - s) ≤ (p2 s - 1) * p2 (32 - s) := Int.mul_le_mul_of_nonneg_right (by omega) (Int.le_of_lt hQ)
      have m2 : (p2 s - 1) * p2 (32 - s) = 4294967296 - p2 (32 - s) := by grind
      rw [e3, e4, shl_u32 (by omega) (by omega), e5, bits_or_comm, u32_or (32 - s).toNat m0 (p2_mod (by omega) _) (by omega) d0 d1 (by omega), List.set_set]
      rw [dif_pos h2] at hg
      rw [Int.add_comm, ← hg, hset]
      exact hrec
    · refine Ev.neg (by omega) ?_
      rw [dif_neg h2, Int.zero_mul, Int.add_zero] at hg
      rw [← hg, hset]
      exact hrec
/-- Down: a number divided by 2^s, which divides it. -/
theorem down_ev (hT : Top m) (hne : m ≠ []) (hd : nv m % p2 s = 0) : ∃ r, Ev (fun K => dyad_down.f K m s) r ∧ Dig r ∧ Top r ∧ nv r * p2 s = nv m ∧ r.length ≤ m.length ∧ r ≠ [] := by
  have hP := p2_pos s
  have hQ := p2_pos (32 - s)
  have hPQ := p2_split (s := s) (by omega) (by omega)
  have hD := dn_length (p2 s) (p2 (32 - s)) m
  have hpos := nv_pos hT hne
  have hlen : 0 < m.length := List.length_pos_iff.mpr hne
  have hdd := dn_dig hP hQ hPQ hm
  have hv : nv (dn (p2 s) (p2 (32 - s)) m) * p2 s = nv m := by
    have h2 := dn_nv hP hPQ m
    have h3 : m.headD 0 % p2 s = 0 := by
      rw [← h2, Int.add_emod, Int.mul_emod_left, Int.zero_add, Int.emod_emod_of_dvd _ (Int.dvd_refl _), Int.emod_emod_of_dvd _ (Int.dvd_refl _)] at hd
      exact hd
    omega
  have hvpos : 0 < nv (dn (p2 s) (p2 (32 - s)) m) := by
    refine Decidable.byContradiction fun hc => ?_
    have := Int.mul_le_mul_of_nonneg_right (show nv (dn (p2 s) (p2 (32 - s)) m) ≤ 0 by omega) (Int.le_of_lt hP)
    omega
  have start : ∀ r, Ev (fun K => dyad_down.l0 K m s (dn (p2 s) (p2 (32 - s)) m) m.length m.length) r → Ev (fun K => dyad_down.f K m s) r := by
    intro r hr
    unfold dyad_down.f
    have p1 : (m.length : Int) ≤ 70368744177664 := by omega
    refine Ev.pos (Int.natCast_nonneg _) (Ev.pos p1 ?_)
    have := down_l0 hm h0 h1 hl m.length 0 (by omega) (by omega) r hr
    rw [stp_zero, hD] at this
    rw [Int.toNat_natCast]
    exact this
  generalize hL : dn (p2 s) (p2 (32 - s)) m = L at *
  by_cases hz : L[L.length - 1]'(by omega) = 0
  · refine ⟨L.take (L.length - 1), start _ (Ev.succ ?_), hdd.take _, ?_, ?_, ?_, ?_⟩
    · simp only [dyad_down.l0]
      refine Ev.neg (by omega) (Ev.pos (by omega) ?_)
      rw [w64 (by omega) (by omega)]
      have e : ((L.length : Int) - 1) = ((L.length - 1 : Nat) : Int) := by omega
      rw [e]
      refine Ev.pos (by omega) (Ev.pos (by omega) (Ev.pos (by rw [rd_nat (by omega)]; exact hz) (Ev.pos (by omega) (Ev.pos (by omega) ?_))))
      rw [Int.toNat_natCast]
      exact Ev.now _
    · intro hne2
      have e2 := nv_last_zero (l := L) (by omega) hz
      have h3 := hT hne
      rw [List.length_take, Nat.min_eq_left (by omega), e2]
      have hn2 : 2 ≤ m.length := by
        refine Decidable.byContradiction fun hc => ?_
        apply hne2
        rw [show L.length - 1 = 0 by omega, List.take_zero]
      have h4 : bp (m.length - 1) = 4294967296 * bp (m.length - 2) := by rw [← bp_succ, show m.length - 2 + 1 = m.length - 1 by omega]
      have h5 := bp_pos (m.length - 2)
      rw [show L.length - 1 - 1 = m.length - 2 by omega]
      refine Decidable.byContradiction fun hc => ?_
      have h6 := Int.mul_le_mul_of_nonneg_right (show nv L ≤ bp (m.length - 2) - 1 by omega) (Int.le_of_lt hP)
      have h7 : p2 s ≤ 4294967296 := by rw [← p2_32]; exact p2_le (by omega)
      have h8 := Int.mul_le_mul_of_nonneg_left h7 (Int.le_of_lt h5)
      have h9 : (bp (m.length - 2) - 1) * p2 s = bp (m.length - 2) * p2 s - p2 s := by grind
      omega
    · rw [nv_last_zero (by omega) hz]; exact hv
    · rw [List.length_take]; omega
    · intro hh
      have := nv_last_zero (l := L) (by omega) hz
      rw [hh] at this
      simp [nv] at this
      omega
  · refine ⟨L, start _ (Ev.succ ?_), hdd, Top.of_last hdd (by omega) hz, hv, by omega, fun hh => by rw [hh] at hvpos; simp [nv] at hvpos⟩
    simp only [dyad_down.l0]
    refine Ev.neg (by omega) (Ev.pos (by omega) ?_)
    rw [w64 (by omega) (by omega)]
    have e : ((L.length : Int) - 1) = ((L.length - 1 : Nat) : Int) := by omega
    rw [e]
    exact Ev.pos (by omega) (Ev.pos (by omega) (Ev.neg (by rw [rd_nat (by omega)]; exact hz) (Ev.now _)))
end

/-- A number in its only form: nought, or odd digits with no nought on top. -/
def Can (neg : Bool) (m : List Int) (e : Int) : Prop := Dig m ∧ Top m ∧ ((m = [] ∧ neg = false ∧ e = 0) ∨ (m ≠ [] ∧ nv m % 2 = 1))
/-- What it stands for. -/
def nval (neg : Bool) (m : List Int) (e : Int) : Rat := if neg then -((nv m : Rat) * pw e) else (nv m : Rat) * pw e
theorem ctz_spec {x : Int} (h0 : 0 < x) (h1 : x < 4294967296) : ∃ s : Nat, bits_TrailingZeros32.f x = some (s : Int) ∧ s < 32 ∧ ∃ q, x = p2 s * (2 * q + 1) := by
  obtain ⟨a, rfl⟩ := Int.eq_ofNat_of_zero_le (Int.le_of_lt h0)
  have ha : a ≠ 0 := by omega
  obtain ⟨q, e, hs⟩ := Lib.ctzFrom_spec 32 a (by omega) (by omega)
  refine ⟨Lib.ctzFrom 32 a, ?_, hs, (q : Int), ?_⟩
  · have ha2 : a < 4294967296 := by omega
    obtain ⟨hlow, hk⟩ := Lib.lowest_bit 32 a ha ha2
    obtain ⟨hi, htab⟩ := Lib.deBruijn32_at _ hk
    have key := Go.Proofs.tz32_key a (2 ^ Lib.ctz 32 a) ha2 ha hlow
    have hc : Lib.ctz 32 a = Lib.ctzFrom 32 a := by unfold Lib.ctz; rw [if_neg ha]
    rw [hc] at key hi htab hk
    clear hlow hc
    obtain ⟨idx, hidx⟩ : ∃ i, i = 2 ^ Lib.ctzFrom 32 a * 125613361 % 4294967296 / 134217728 := ⟨_, rfl⟩
    rw [← hidx] at key hi htab
    clear hidx
    obtain ⟨c, hcc⟩ : ∃ c, c = Lib.ctzFrom 32 a := ⟨_, rfl⟩
    rw [← hcc] at htab ⊢
    have hl : idx < Lib.deBruijn32tab.length := hi
    have hv : rd tab32 (idx : Int) = ((c : Nat) : Int) := by
      have e : tab32 = Lib.deBruijn32tab.map Int.ofNat := rfl
      unfold rd
      rw [List.getD_eq_getElem?_getD, List.getElem?_eq_getElem hl] at htab
      rw [e, Int.toNat_natCast, List.getD_eq_getElem?_getD, List.getElem?_map, List.getElem?_eq_getElem hl]
      exact congrArg Int.ofNat htab
    have i0 : (0 : Int) ≤ (idx : Int) := Int.natCast_nonneg _
    have i1 : (idx : Int) < 32 := by omega
    unfold bits_TrailingZeros32.f
    rw [if_neg (by omega), key, if_pos i0, if_pos i1, hv, w64 (by omega) (by omega)]
  · have : ((a : Nat) : Int) = ((2 ^ Lib.ctzFrom 32 a * (2 * q + 1) : Nat) : Int) := congrArg _ e
    rw [this]
    unfold p2
    push_cast
    rw [Int.toNat_natCast]
theorem nv_head_mod {l : List Int} (h : 0 < l.length) : ∃ q, nv l = l[0] + 4294967296 * q := by
  cases l with
  | nil => simp at h
  | cons a l => exact ⟨nv l, rfl⟩

section
variable {neg : Bool} {l : List Int} {e : Int} (hl : Dig l) (hn : l.length ≤ 1000000) (he0 : -1000000000 ≤ e) (he1 : e ≤ 1000000000)
include hl hn he0 he1
theorem trim_l1 (ht : Top l) (hne : l ≠ []) : ∀ n k : Nat, l.length - k = n → k < l.length → nv (l.take k) = 0 →
    ∃ n' m' e', Ev (fun K => dyad_trim.l1 K neg l e k) (n', m', e') ∧ Can n' m' e' ∧ nval n' m' e' = nval neg l e := by
  intro n
  induction n with
  | zero => intro k e1 e2; omega
  | succ n ih =>
    intro k e1 e2 hz
    by_cases h0 : l[k] = 0
    · have hk2 : k + 1 < l.length := by
        refine Decidable.byContradiction fun hc => ?_
        have h1 := nv_take_succ e2
        rw [h0, hz, show k + 1 = l.length by omega, List.take_length] at h1
        have := nv_pos ht hne
        omega
      obtain ⟨n', m', e', ev, c, v⟩ := ih (k + 1) (by omega) hk2 (by rw [nv_take_succ e2, h0, hz]; simp)
      refine ⟨n', m', e', Ev.succ ?_, c, v⟩
      simp only [dyad_trim.l1]
      refine Ev.pos (by omega) (Ev.pos (by omega) (Ev.pos (by rw [rd_nat e2]; exact h0) ?_))
      rw [w64 (by omega) (by omega)]
      exact ev
    · have hd := hl.get e2
      obtain ⟨s, hs, hs32, q, hq⟩ := ctz_spec (x := l[k]) (by omega) hd.2
      have hY : Dig (l.drop k) := hl.drop k
      have hYl : (l.drop k).length = l.length - k := List.length_drop
      have hY0 : (l.drop k)[0]'(by omega) = l[k] := by simp
      have hYne : l.drop k ≠ [] := List.length_pos_iff.mp (by omega)
      have hsplit := nv_take_drop l k (by omega)
      rw [hz, Int.zero_add] at hsplit
      have hbk := bp_pos k
      have hYt : Top (l.drop k) := by
        intro _
        have h1 := ht hne
        rw [hYl]
        have h2 : bp (l.length - 1) = bp k * bp (l.length - k - 1) := by rw [← bp_add, show k + (l.length - k - 1) = l.length - 1 by omega]
        rw [h2, hsplit] at h1
        exact Int.le_of_mul_le_mul_left h1 hbk
      obtain ⟨t, hq2⟩ := nv_head_mod (l := l.drop k) (by omega)
      rw [hY0] at hq2
      have hval : ∀ (r : List Int) (x : Int), nv r * p2 s = nv (l.drop k) → (x = e + 32 * k + s) → nval neg r x = nval neg l e := by
        intro r x h1 h2
        have h3 : (nv r : Rat) * pw x = (nv l : Rat) * pw e := by
          rw [hsplit, ← h1, h2, pw_add, pw_add, ← bp_pw, pw_p2 (a := (s : Int)) (by omega)]
          push_cast
          grind
        unfold nval
        rw [h3]
      have step : ∀ ρ : Bool × List Int × Int, Ev (fun K => if (s : Int) > 0 then (dyad_down.f K (l.drop k) (s : Int)).bind (fun t130 => some (neg, t130, wrap64 (wrap64 (e + wrap64 (32 * (k : Int))) + (s : Int)))) else some (neg, l.drop k, wrap64 (e + wrap64 (32 * (k : Int))))) ρ →
          Ev (fun K => dyad_trim.l1 K neg l e k) ρ := by
        intro ρ h
        refine Ev.succ ?_
        simp only [dyad_trim.l1]
        refine Ev.pos (by omega) (Ev.pos (by omega) (Ev.neg (by rw [rd_nat e2]; exact h0) (Ev.pos (by omega) ?_)))
        rw [Int.toNat_natCast]
        refine Ev.pos (by omega) ?_
        rw [rd_zero (by omega), hY0]
        exact Ev.call hs h
      have w1 : wrap64 (e + wrap64 (32 * (k : Int))) = e + 32 * k := by rw [w64 (x := 32 * (k : Int)) (by omega) (by omega), w64 (by omega) (by omega)]
      by_cases hs0 : s = 0
      · subst hs0
        have hp0 : p2 ((0 : Nat) : Int) = 1 := p2_0
        rw [hp0, Int.one_mul] at hq
        refine ⟨neg, l.drop k, e + 32 * k, step _ (Ev.neg (by omega) ?_), ⟨hY, hYt, .inr ⟨hYne, by rw [hq2, hq]; omega⟩⟩, hval _ _ (by rw [hp0, Int.mul_one]) (by omega)⟩
        rw [w1]
        exact Ev.now _
      · have hdiv : nv (l.drop k) % p2 s = 0 := by
          have h32 : (4294967296 : Int) = p2 s * p2 (32 - s) := (p2_split (by omega) (by omega)).symm
          rw [hq2, hq, h32, Int.mul_assoc, ← Int.mul_add]
          exact Int.mul_emod_right _ _
        obtain ⟨r, ev, rd_, rt, rv, rl, rne⟩ := down_ev (m := l.drop k) (s := (s : Int)) hY (by omega) (by omega) (by omega) hYt hYne hdiv
        refine ⟨neg, r, e + 32 * k + s, step _ (Ev.pos (by omega) (Ev.bind ev ?_)), ⟨rd_, rt, .inr ⟨rne, ?_⟩⟩, hval _ _ rv rfl⟩
        · rw [w1, w64 (by omega) (by omega)]
          exact Ev.now _
        · have hP := p2_pos s
          have h32 : (4294967296 : Int) = p2 s * (2 * p2 (32 - s - 1)) := by
            rw [← p2_split (s := (s : Int)) (by omega) (by omega), ← p2_succ (by omega), show (32 : Int) - s - 1 + 1 = 32 - s by omega]
          have h4 : nv r = 2 * q + 1 + 2 * (p2 (32 - s - 1) * t) := by
            have h5 : nv r * p2 s = (2 * q + 1 + 2 * (p2 (32 - s - 1) * t)) * p2 s := by
              rw [rv, hq2, hq, h32]; grind
            exact Int.eq_of_mul_eq_mul_right (by omega) h5
          omega
/-- Trim: the only form of a number. -/
theorem trim_ev : ∃ n' m' e', Ev (fun K => dyad_trim.f K neg l e) (n', m', e') ∧ Can n' m' e' ∧ nval n' m' e' = nval neg l e := by
  have key : ∀ n k : Nat, k = n → k ≤ l.length → nv (l.take k) = nv l → ∃ n' m' e', Ev (fun K => dyad_trim.l0 K neg l e k) (n', m', e') ∧ Can n' m' e' ∧ nval n' m' e' = nval neg l e := by
    intro n
    induction n with
    | zero =>
      intro k e1 e2 hv
      subst e1
      refine ⟨false, [], 0, Ev.succ ?_, ⟨Dig.nil, fun h => absurd rfl h, .inl ⟨rfl, rfl, rfl⟩⟩, ?_⟩
      · simp only [dyad_trim.l0]
        refine Ev.neg (by omega) (Ev.succ ?_)
        simp only [dyad_trim.j1]
        exact Ev.pos (by omega) (Ev.pos (by omega) (Ev.pos (by omega) (Ev.now _)))
      · have h0 : nv l = 0 := by rw [← hv]; simp [nv]
        unfold nval
        rw [h0]
        cases neg <;> simp [nv]
    | succ n ih =>
      intro k e1 e2 hv
      subst e1
      have hi : n < l.length := by omega
      by_cases h0 : l[n] = 0
      · obtain ⟨n', m', e', ev, c, v⟩ := ih n rfl (by omega) (by rw [← hv, nv_take_succ hi, h0]; simp)
        refine ⟨n', m', e', Ev.succ ?_, c, v⟩
        simp only [dyad_trim.l0]
        refine Ev.pos (by omega) ?_
        have e : wrap64 (((n + 1 : Nat) : Int) - 1) = (n : Int) := by rw [w64 (by omega) (by omega)]; omega
        rw [e]
        exact Ev.pos (by omega) (Ev.pos (by omega) (Ev.pos (by rw [rd_nat hi]; exact h0) ev))
      · have hlt : (l.take (n + 1)).length = n + 1 := by rw [List.length_take]; omega
        have hlast : (l.take (n + 1))[(l.take (n + 1)).length - 1]'(by omega) = l[n] := by
          rw [List.getElem_take]; congr 1; omega
        have hT : Top (l.take (n + 1)) := Top.of_last (hl.take _) (by omega) (by rw [hlast]; exact h0)
        obtain ⟨n', m', e', ev, c, v⟩ := trim_l1 (neg := neg) (l := l.take (n + 1)) (e := e) (hl.take _) (by omega) he0 he1 hT (List.length_pos_iff.mp (by omega)) (n + 1) 0 (by omega) (by omega) (by simp [nv])
        refine ⟨n', m', e', Ev.succ ?_, c, ?_⟩
        · simp only [dyad_trim.l0]
          refine Ev.pos (by omega) ?_
          have e : wrap64 (((n + 1 : Nat) : Int) - 1) = (n : Int) := by rw [w64 (by omega) (by omega)]; omega
          rw [e]
          refine Ev.pos (by omega) (Ev.pos (by omega) (Ev.neg (by rw [rd_nat hi]; exact h0) (Ev.succ ?_)))
          simp only [dyad_trim.j1]
          refine Ev.pos (by omega) (Ev.pos (by omega) (Ev.neg (by omega) ?_))
          rw [Int.toNat_natCast]
          exact ev
        · rw [v]; unfold nval; rw [hv]
  have := key l.length l.length rfl (Nat.le_refl _) (by rw [List.take_length])
  unfold dyad_trim.f
  exact this
end

section
variable {m : List Int} (hm : Dig m) (hl : m.length ≤ 1000000) {q : Nat} {s : Int} (hq : q ≤ 1000000) (s0 : 0 ≤ s) (s1 : s < 32)
include hm hl hq s0 s1
end

/-- An odd number times a power of two has no more twos. -/
theorem odd_expo {N k : Int} {e d : Int} (h : N % 2 = 1) (hv : (N : Rat) * pw e = (k : Rat) * pw d) : d ≤ e := by
  refine Decidable.byContradiction fun hc => ?_
  obtain ⟨n, hn⟩ : ∃ n : Nat, d = e + ((n + 1 : Nat) : Int) := ⟨(d - e - 1).toNat, by omega⟩
  have h1 : (N : Rat) * pw e = ((k * 2 ^ (n + 1) : Int) : Rat) * pw e := by
    rw [hv, hn, pw_addNat]; push_cast; grind
  have h2 := mul_pw_inj h1
  rw [Int.pow_succ] at h2
  have h3 : k * (2 ^ n * 2) = 2 * (k * 2 ^ n) := by grind
  omega
theorem Can.unique {n n' : Bool} {m m' : List Int} {e e' : Int} (c : Can n m e) (c' : Can n' m' e') (h : nval n m e = nval n' m' e') : n = n' ∧ m = m' ∧ e = e' := by
  obtain ⟨d, t, k⟩ := c
  obtain ⟨d', t', k'⟩ := c'
  have pos : ∀ {n : Bool} {m : List Int} {e : Int}, Top m → m ≠ [] → 0 < (nv m : Rat) * pw e := by
    intro n m e t h
    have h1 : (0 : Rat) < (nv m : Rat) := by exact_mod_cast nv_pos t h
    exact Rat.mul_pos h1 (pw_pos e)
  rcases k with ⟨rfl, rfl, rfl⟩ | ⟨hne, ho⟩
  · rcases k' with ⟨rfl, rfl, rfl⟩ | ⟨hne', ho'⟩
    · exact ⟨rfl, rfl, rfl⟩
    · have := pos (n := n') (e := e') t' hne'
      unfold nval at h
      simp [nv] at h
      cases n' <;> simp at h <;> grind
  · rcases k' with ⟨rfl, rfl, rfl⟩ | ⟨hne', ho'⟩
    · have := pos (n := n) (e := e) t hne
      unfold nval at h
      simp [nv] at h
      cases n <;> simp at h <;> grind
    · have p := pos (n := n) (e := e) t hne
      have p' := pos (n := n') (e := e') t' hne'
      have hs : n = n' ∧ (nv m : Rat) * pw e = (nv m' : Rat) * pw e' := by
        unfold nval at h
        cases n <;> cases n' <;> simp at h ⊢ <;> grind
      obtain ⟨rfl, hv⟩ := hs
      have h1 := odd_expo ho hv
      have h2 := odd_expo ho' hv.symm
      obtain rfl : e = e' := by omega
      have h3 := mul_pw_inj hv
      exact ⟨rfl, t.inj d d' t' h3, rfl⟩
/-- A number in its only form, within bounds. -/
structure Nm (E : Int) (x : Rat) (n : Bool) (m : List Int) (e : Int) : Prop where
  can : Can n m e
  val : nval n m e = x
  lo : -E ≤ e
  hi : (nv m : Rat) * pw e ≤ pw E
theorem Nm.unique {E E' : Int} {x : Rat} {n n' : Bool} {m m' : List Int} {e e' : Int} (h : Nm E x n m e) (h' : Nm E' x n' m' e') : n = n' ∧ m = m' ∧ e = e' :=
  h.can.unique h'.can (h.val.trans h'.val.symm)
theorem Nm.mono {E E' : Int} {x : Rat} {n : Bool} {m : List Int} {e : Int} (h : Nm E x n m e) (hE : E ≤ E') : Nm E' x n m e :=
  ⟨h.can, h.val, by have := h.lo; omega, Rat.le_trans h.hi (pw_mono hE)⟩
theorem Nm.sizes {E : Int} {x : Rat} {n : Bool} {m : List Int} {e : Int} (h : Nm E x n m e) (h0 : 0 ≤ E) : e ≤ E ∧ 32 * (m.length : Int) ≤ 2 * E + 32 ∧ -E ≤ e := by
  obtain ⟨d, t, k⟩ := h.can
  have lo := h.lo
  rcases k with ⟨rfl, rfl, rfl⟩ | ⟨hne, ho⟩
  · simp; omega
  · have h1 := t hne
    have h2 : ((bp (m.length - 1) : Int) : Rat) * pw e ≤ (nv m : Rat) * pw e := mul_pw_le.mpr h1
    have h3 : ((bp (m.length - 1) : Int) : Rat) * pw e ≤ pw E := Rat.le_trans h2 h.hi
    rw [bp_pw, ← pw_add] at h3
    have h4 := pw_le_iff.mp h3
    have := List.length_pos_iff.mpr hne
    omega
theorem nval_abs {n : Bool} {m : List Int} {e : Int} (hm : Dig m) : 0 ≤ (nv m : Rat) * pw e ∧ (nval n m e = (nv m : Rat) * pw e ∨ nval n m e = -((nv m : Rat) * pw e)) := by
  have h1 : (0 : Rat) ≤ (nv m : Rat) := by exact_mod_cast (nv_bounds hm).1
  refine ⟨Rat.mul_nonneg h1 (Rat.le_of_lt (pw_pos e)), ?_⟩
  unfold nval
  cases n <;> simp
/-- What is in its only form is within bounds that hold of its value. -/
theorem Nm.of {E : Int} {x : Rat} {n : Bool} {m : List Int} {e k : Int} (hE : 0 ≤ E) (c : Can n m e) (h : nval n m e = x) (hk : x = (k : Rat) * pw (-E)) (h1 : x ≤ pw E) (h2 : -pw E ≤ x) : Nm E x n m e := by
  refine ⟨c, h, ?_, ?_⟩
  · rcases c.2.2 with ⟨rfl, rfl, rfl⟩ | ⟨hne, ho⟩
    · omega
    · have h3 : ∃ k' : Int, (nv m : Rat) * pw e = (k' : Rat) * pw (-E) := by
        rcases (nval_abs (n := n) (e := e) c.1).2 with h4 | h4
        · exact ⟨k, by rw [← h4, h, hk]⟩
        · refine ⟨-k, ?_⟩
          have : (nv m : Rat) * pw e = -x := by grind
          rw [this, hk]; push_cast; grind
      obtain ⟨k', h3⟩ := h3
      exact odd_expo ho h3
  · rcases (nval_abs (n := n) (e := e) c.1).2 with h4 | h4 <;> grind
/-- A number within bounds is a whole number times their least power. -/
theorem Nm.whole {E : Int} {x : Rat} {n : Bool} {m : List Int} {e : Int} (h : Nm E x n m e) : ∃ k : Int, x = (k : Rat) * pw (-E) := by
  obtain ⟨j, hj⟩ : ∃ j : Nat, e = -E + (j : Int) := ⟨(e + E).toNat, by have := h.lo; omega⟩
  have e1 : (nv m : Rat) * pw e = ((nv m * 2 ^ j : Int) : Rat) * pw (-E) := by rw [hj, pw_addNat]; push_cast; grind
  rcases (nval_abs (n := n) (e := e) h.can.1).2 with h4 | h4
  · exact ⟨nv m * 2 ^ j, by rw [← h.val, h4, e1]⟩
  · refine ⟨-(nv m * 2 ^ j), ?_⟩
    rw [← h.val, h4, e1]; push_cast; grind

section
variable {X Y : List Int} (hX : Dig X) (hY : Dig Y) (lX : X.length ≤ 900000) {E : Int} {neg : Bool} (e0 : -4000000 ≤ E) (e1 : E ≤ 4000000)
include hX hY lX e0 e1
end

section
variable {A B : List Int} (hA : Dig A) (hB : Dig B) (lab : A.length + B.length ≤ 900000) {n n' : Bool} {e e' : Int}
include hA hB lab
end
/-- Bounds that hold of the value. -/
theorem Nm.fit {E E' : Int} {x : Rat} {n : Bool} {m : List Int} {e k : Int} (h : Nm E x n m e) (hE : 0 ≤ E') (hk : x = (k : Rat) * pw (-E')) (h1 : x ≤ pw E') (h2 : -pw E' ≤ x) : Nm E' x n m e :=
  Nm.of hE h.can h.val hk h1 h2
theorem int_bounds {z : Int} {E : Int} (h0 : 0 ≤ E) (h1 : z ≤ p2 E) (h2 : -p2 E ≤ z) : (z : Rat) = ((z * p2 E : Int) : Rat) * pw (-E) ∧ (z : Rat) ≤ pw E ∧ -pw E ≤ (z : Rat) := by
  rw [pw_p2 h0]
  refine ⟨?_, by exact_mod_cast h1, by have : ((-p2 E : Int) : Rat) ≤ (z : Rat) := by exact_mod_cast h2
                                       push_cast at this; exact this⟩
  have := pw_neg_mul E
  rw [pw_p2 h0] at this
  push_cast
  grind
theorem Nm.int {E E' : Int} {z : Int} {n : Bool} {m : List Int} {e : Int} (h : Nm E (z : Rat) n m e) (hE : 0 ≤ E') (h1 : z ≤ p2 E') (h2 : -p2 E' ≤ z) : Nm E' (z : Rat) n m e :=
  let b := int_bounds hE h1 h2
  h.fit hE b.1 b.2.1 b.2.2
theorem nv_two {u : Int} (h0 : 0 ≤ u) (h1 : u < 18446744073709551616) : Dig [u % 4294967296, u / 4294967296 % 4294967296] ∧ nv [u % 4294967296, u / 4294967296 % 4294967296] = u := by
  refine ⟨Dig.mk (by omega) (by omega) (Dig.one (by omega) (by omega)), ?_⟩
  simp only [nv]
  omega
end Gim
namespace Gim
open Go Go.RowKit Go.Proofs.YtdmhepgfmickdaaDoorW.PrintWords Go.Proofs.YtdmhepgfmickdaaDoorW.PrintLast Go.Proofs.YtdmhepgfmickdaaDoorW.PrintMore Go.Proofs.YtdmhepgfmickdaaDoor.F
set_option linter.unusedVariables false
set_option linter.unusedSectionVars false

theorem nval_sgd (n : Bool) (m : List Int) (e : Int) : nval n m e = (sgd n (nv m) : Rat) * pw e := by
  unfold nval sgd
  cases n
  · simp
  · simp; grind
theorem p2_bp (k : Nat) : p2 (32 * (k : Int)) = bp k := by
  have e : ((32 * (k : Int)) : Int) = ((32 * k : Nat) : Int) := by omega
  unfold p2 bp
  rw [e, Int.toNat_natCast, Int.pow_mul]; rfl
theorem nv_take_drop_succ {l : List Int} {i j : Nat} (h : i + j < l.length) : nv ((l.drop i).take (j + 1)) = nv ((l.drop i).take j) + bp j * l[i + j] := by
  have h2 : j < (l.drop i).length := by rw [List.length_drop]; omega
  rw [nv_take_succ h2, List.getElem_drop]
theorem bp2_val : bp 2 = 18446744073709551616 := by decide
section
variable {n : Bool} {m : List Int} {e : Int} (hm : Dig m) (hl : m.length ≤ 1000000) (he0 : -1000000 ≤ e) (he1 : e ≤ 1000000)
include hm hl he0 he1
theorem near_top {E : Int} {more : Bool} : ∀ t i : Nat, m.length - i = t → m.length - 3 ≤ i → i ≤ m.length → ∀ h l : Int, U h → U l → wv h l = nv ((m.drop (m.length - 3)).take (i - (m.length - 3))) →
    ∃ h' l', U h' ∧ U l' ∧ wv h' l' = nv (m.drop (m.length - 3)) ∧ ∀ r : Int × Int, Ev (fun K => round_Round.f K n h' l' E more) r → Ev (fun K => dyad_Num_Near.l0 K m.length E more m m.length i n m e h l) r := by
  intro t
  induction t with
  | zero =>
    intro i h1 h2 h3 h l uh ul hv
    obtain rfl : i = m.length := by omega
    refine ⟨h, l, uh, ul, ?_, fun r hr => Ev.succ ?_⟩
    · rw [hv, List.take_of_length_le (by rw [List.length_drop]; omega)]
    · simp only [dyad_Num_Near.l0]
      exact Ev.neg (by omega) (Ev.bind hr (Ev.now _))
  | succ t ih =>
    intro i h1 h2 h3 h l uh ul hv
    have hi : i < m.length := by omega
    have hd := hm.get hi
    obtain ⟨j, hj⟩ : ∃ j, i = (m.length - 3) + j := ⟨i - (m.length - 3), by omega⟩
    have hj3 : j < 3 := by omega
    have hs : 32 * ((i : Int) - mx 0 ((m.length : Int) - 3)) = 32 * (j : Int) := by unfold mx; split <;> omega
    have bj := bp_pos j
    have bj2 : bp j ≤ bp 2 := bp_mono (by omega)
    rw [bp2_val] at bj2
    have vb := nv_bounds ((hm.drop (m.length - 3)).take j)
    have vl : ((m.drop (m.length - 3)).take j).length = j := by rw [List.length_take, List.length_drop]; omega
    rw [vl] at vb
    have ud : U m[i] := ⟨hd.1, by omega⟩
    have wd : wv 0 m[i] = m[i] := by unfold wv; omega
    have hprod := mul_bound hd.1 (Int.le_of_lt bj) (show m[i] ≤ 4294967295 by omega) bj2
    obtain ⟨h1', l1', e1, uh1, ul1, v1⟩ := wide_Left_small (h := 0) (l := m[i]) (n := 32 * (j : Int)) ⟨by decide, by decide⟩ ud (by omega) (by rw [wd, p2_bp]; omega)
    rw [wd, p2_bp] at v1
    obtain ⟨h2', l2', e2, uh2, ul2, v2⟩ := wide_Add_eq uh ul uh1 ul1
    have hidx : i - (m.length - 3) = j := by omega
    rw [hidx] at hv
    rw [hv, v1] at v2
    have hsum : nv ((m.drop (m.length - 3)).take (j + 1)) = nv ((m.drop (m.length - 3)).take j) + m[i] * bp j := by
      rw [nv_take_drop_succ (by omega), Int.mul_comm]
      congr 2
      simp [hj]
    have hlt : nv ((m.drop (m.length - 3)).take j) + m[i] * bp j < 340282366920938463463374607431768211456 := by omega
    rw [Int.emod_eq_of_lt (by omega) hlt, ← hsum] at v2
    obtain ⟨h', l', uh', ul', vv, k⟩ := ih (i + 1) (by omega) (by omega) (by omega) h2' l2' uh2 ul2 (by rw [v2]; congr 2; omega)
    refine ⟨h', l', uh', ul', vv, fun r hr => Ev.succ ?_⟩
    simp only [dyad_Num_Near.l0]
    rw [w64 (x := (m.length : Int) - 3) (by omega) (by omega), w64 (x := (i : Int) - mx 0 ((m.length : Int) - 3)) (by omega) (by omega), hs, w64 (x := 32 * (j : Int)) (by omega) (by omega), w64 (x := (i : Int) + 1) (by omega) (by omega), rd_nat hi, wu64 (x := m[i]) hd.1 (by omega)]
    exact Ev.pos (by omega) (Ev.pos (by omega) (Ev.pos (by omega) (Ev.neg (by omega) (Ev.call e1 (Ev.call e2 (k r hr))))))
theorem near_low : ∀ t i : Nat, (m.length - 3) - i = t → i ≤ m.length - 3 → ∀ r : Int × Int,
    Ev (fun K => dyad_Num_Near.l0 K m.length (e + 32 * ((m.length - 3 : Nat) : Int)) (decide (0 < m.length - 3)) m m.length ((m.length - 3 : Nat) : Int) n m e 0 0) r →
    Ev (fun K => dyad_Num_Near.l0 K m.length (e + 32 * (i : Int)) (decide (0 < i)) m m.length i n m e 0 0) r := by
  intro t
  induction t with
  | zero =>
    intro i h1 h2 r hr
    obtain rfl : i = m.length - 3 := by omega
    exact hr
  | succ t ih =>
    intro i h1 h2 r hr
    have k := ih (i + 1) (by omega) (by omega) r hr
    refine Ev.succ ?_
    simp only [dyad_Num_Near.l0]
    rw [w64 (x := (m.length : Int) - 3) (by omega) (by omega), w64 (x := e + 32 * (i : Int) + 32) (by omega) (by omega), w64 (x := (i : Int) + 1) (by omega) (by omega), show e + 32 * (i : Int) + 32 = e + 32 * ((i + 1 : Nat) : Int) by omega]
    refine Ev.pos (by omega) (Ev.pos (by omega) (Ev.pos (by omega) (Ev.pos (by omega) ?_)))
    rw [decide_eq_true (show 0 < i + 1 by omega)] at k
    exact k
end
/-- THE NEAREST PATTERN. -/
theorem near_ev {E : Int} {x : Rat} {n : Bool} {m : List Int} {e : Int} (hE0 : 0 ≤ E) (hE : E ≤ 20000) (a : Nm E x n m e) : ∃ r f, Ev (fun K => dyad_Num_Near.f K n m e) (r, f) ∧ Rd x false r f := by
  obtain ⟨s1, s2, s3⟩ := a.sizes hE0
  have hm := a.can.1
  by_cases h1 : m = []
  · have hx : x = 0 := by rw [← a.val, h1]; unfold nval; cases n <;> simp [nv]
    obtain ⟨_, rfl, rfl⟩ : m = [] ∧ n = false ∧ e = 0 := a.can.2.2.resolve_right fun h => h.1 h1
    subst h1
    refine ⟨signed false 0, 0, ?_, ⟨fun _ => ⟨rfl, rfl⟩, fun h => absurd hx h⟩⟩
    unfold dyad_Num_Near.f
    refine Ev.succ ?_
    simp only [dyad_Num_Near.l0]
    exact Ev.neg (by simp) (Ev.bind (round_Round_zero false 0) (Ev.now _))
  · have ho : nv m % 2 = 1 := by
      rcases a.can.2.2 with ⟨h, _⟩ | ⟨_, h⟩
      · exact absurd h h1
      · exact h
    have hpos := nv_pos a.can.2.1 h1
    have htop := a.can.2.1 h1
    have hlen : 0 < m.length := List.length_pos_iff.mpr h1
    obtain ⟨h', l', uh, ul, hv, k⟩ := near_top (n := n) (e := e) (E := e + 32 * ((m.length - 3 : Nat) : Int)) (more := decide (0 < m.length - 3)) hm (by omega) (by omega) (by omega) _ (m.length - 3) rfl (by omega) (by omega) 0 0 ⟨by decide, by decide⟩ ⟨by decide, by decide⟩ (by simp [nv, wv])
    have hx := a.val
    rw [nval_sgd] at hx
    have hax : rabs x = (nv m : Rat) * pw e := by rw [← hx]; exact rabs_sgd n (Int.le_of_lt hpos)
    have split := nv_take_drop m (m.length - 3) (by omega)
    have lb := nv_bounds (hm.take (m.length - 3))
    have tl : (m.take (m.length - 3)).length = m.length - 3 := by rw [List.length_take]; omega
    rw [tl] at lb
    have hB := bp_pos (m.length - 3)
    have hpw : pw (e + 32 * ((m.length - 3 : Nat) : Int)) = ((bp (m.length - 3) : Int) : Rat) * pw e := by rw [pw_add, bp_pw, Rat.mul_comm]
    have hW : 0 < wv h' l' := by
      rw [hv]
      refine Decidable.byContradiction fun hc => ?_
      by_cases h3 : m.length ≤ 3
      · have e0 : m.length - 3 = 0 := by omega
        rw [e0, List.drop_zero] at hc
        omega
      · have h5 := Int.mul_le_mul_of_nonneg_left (show nv (m.drop (m.length - 3)) ≤ 0 by omega) (Int.le_of_lt hB)
        have h6 := bp_mono (show m.length - 3 ≤ m.length - 1 by omega)
        omega
    have hmore : 0 < m.length - 3 → (0 < nv (m.take (m.length - 3))) ∧ 54 ≤ blen (wv h' l') := by
      intro h3
      constructor
      · have he := bp_even _ h3
        refine Decidable.byContradiction fun hc => ?_
        have z : nv (m.take (m.length - 3)) = 0 := by omega
        rw [z] at split
        have : (bp (m.length - 3) * nv (m.drop (m.length - 3))) % 2 = 0 := by rw [Int.mul_emod, he]; simp
        omega
      · have h4 : bp (m.length - 1) = bp (m.length - 3) * bp 2 := by rw [← bp_add]; congr 1; omega
        have h5 : bp 2 ≤ nv (m.drop (m.length - 3)) := by
          refine Decidable.byContradiction fun hc => ?_
          have h6 := Int.mul_le_mul_of_nonneg_left (show nv (m.drop (m.length - 3)) ≤ bp 2 - 1 by omega) (Int.le_of_lt hB)
          have h7 : bp (m.length - 3) * (bp 2 - 1) = bp (m.length - 3) * bp 2 - bp (m.length - 3) := by grind
          omega
        rw [bp2_val] at h5
        obtain ⟨b1, b2, b3⟩ := blen_pos hW
        refine Decidable.byContradiction fun hc => ?_
        have := p2_le (show blen (wv h' l') ≤ 64 by omega)
        rw [p2_64] at this
        omega
    obtain ⟨b, f, ev, rb⟩ := round_Round_ev n uh ul (E := e + 32 * ((m.length - 3 : Nat) : Int)) (by omega) (by omega) (decide (0 < m.length - 3)) (x := rabs x) hW (by
      intro h
      have h0 : m.length - 3 = 0 := by simpa using h
      rw [hax, hv, hpw, h0, List.drop_zero, bp_zero]; simp) (by
      intro h
      have h0 : 0 < m.length - 3 := of_decide_eq_true h
      obtain ⟨q1, q2⟩ := hmore h0
      refine ⟨?_, q2⟩
      rw [hax, hv, hpw]
      have hp := pw_pos e
      have z1 : bp (m.length - 3) * nv (m.drop (m.length - 3)) < nv m := by omega
      have z2 : nv m < bp (m.length - 3) * (nv (m.drop (m.length - 3)) + 1) := by grind
      have y1 := mul_pw_lt (e := e) |>.mpr z1
      have y2 := mul_pw_lt (e := e) |>.mpr z2
      push_cast at y1 y2 ⊢
      constructor <;> grind)
    refine ⟨signed n b, f, ?_, ⟨fun h0 => ?_, fun h0 => ⟨b, rb, ?_⟩⟩⟩
    · unfold dyad_Num_Near.f
      have := near_low (n := n) (e := e) hm (by omega) (by omega) (by omega) _ 0 rfl (by omega) (signed n b, f) (k _ ev)
      have e0 : e + 32 * ((0 : Nat) : Int) = e := by omega
      rw [e0] at this
      exact this
    · rw [h0] at hx
      have := int_pw_zero.mp hx
      unfold sgd at this; split at this <;> omega
    · congr 1
      rw [← hx, Bool.eq_iff_iff, decide_eq_true_eq, int_pw_neg]
      unfold sgd; cases n <;> simp <;> omega
end Gim
namespace Gim
open Go Go.RowKit Go.Proofs.YtdmhepgfmickdaaDoorW.PrintWords Go.Proofs.YtdmhepgfmickdaaDoorW.PrintLast Go.Proofs.YtdmhepgfmickdaaDoorW.PrintMore Go.Proofs.YtdmhepgfmickdaaDoor.F
set_option linter.unusedVariables false

theorem Nm.zero {E : Int} (hE : 0 ≤ E) : Nm E 0 false [] 0 :=
  ⟨⟨Dig.nil, fun h => absurd rfl h, .inl ⟨rfl, rfl, rfl⟩⟩, by unfold nval; simp [nv], by omega, by simp [nv]; exact Rat.le_of_lt (pw_pos E)⟩

theorem int_ev {z : Int} (h0 : -9223372036854775808 ≤ z) (h1 : z ≤ 9223372036854775807) : ∃ r l f, Ev (fun K => dyad_Int.f K z) (r, l, f) ∧ Nm 64 (z : Rat) r l f := by
  have hb := int_bounds (z := z) (E := 64) (by decide) (by rw [p2_64]; omega) (by rw [p2_64]; omega)
  have wrap : ∀ {r : Bool} {l : List Int} {f : Int}, Gim.Can r l f → nval r l f = (z : Rat) → Nm 64 (z : Rat) r l f :=
    fun c h => Nm.of (by decide) c h hb.1 hb.2.1 hb.2.2
  by_cases c : z < 0
  · have w : IntKind.u64.wrap (-(IntKind.u64.wrap z)) = -z := by rw [wu64_mod, wu64_mod]; omega
    obtain ⟨dg, vl⟩ := nv_two (u := -z) (by omega) (by omega)
    obtain ⟨r, l, f, ev, cn, v⟩ := trim_ev (neg := true) (e := 0) dg (by simp) (by decide) (by decide)
    refine ⟨r, l, f, ?_, wrap cn ?_⟩
    · unfold dyad_Int.f
      rw [w, decide_eq_true c]
      exact Ev.pos c (Ev.bind ev (Ev.now _))
    · rw [v]; unfold nval; rw [vl, pw_zero]; push_cast; simp
  · have w : IntKind.u64.wrap z = z := wu64 (by omega) (by omega)
    obtain ⟨dg, vl⟩ := nv_two (u := z) (by omega) (by omega)
    obtain ⟨r, l, f, ev, cn, v⟩ := trim_ev (neg := false) (e := 0) dg (by simp) (by decide) (by decide)
    refine ⟨r, l, f, ?_, wrap cn ?_⟩
    · unfold dyad_Int.f
      rw [w, decide_eq_false c]
      exact Ev.neg c (Ev.bind ev (Ev.now _))
    · rw [v]; unfold nval; rw [vl, pw_zero]; simp
end Gim
namespace Gim
open Go Go.RowKit Go.Proofs.YtdmhepgfmickdaaDoorW.PrintWords Go.Proofs.YtdmhepgfmickdaaDoorW.PrintLast Go.Proofs.YtdmhepgfmickdaaDoorW.PrintMore Go.Proofs.YtdmhepgfmickdaaDoor.F
set_option linter.unusedVariables false
set_option linter.unusedSectionVars false

section
variable {x0 x1 x2 x3 : Rat} {a0 a3 a6 a9 : Bool} {l1 l4 l7 l10 : List Int} {a2 a5 a8 a11 : Int}
  (hx0 : Nm 5000 x0 a0 l1 a2) (hx1 : Nm 5000 x1 a3 l4 a5) (hx2 : Nm 5000 x2 a6 l7 a8) (hx3 : Nm 5000 x3 a9 l10 a11)
include hx0 hx1 hx2 hx3
end
theorem law_plain {a b c d : Int} (ub : U b) (uc : U c) : gimballaw15_plain.f a b c d = some (plainB a b c d) := by
  unfold gimballaw15_plain.f
  rw [word_Abs_mag uc, word_Abs_mag ub, word_Neg_neg ub, word_Neg_neg uc]
  simp only [Option.bind_some]
  unfold plainB
  by_cases h1 : mag c = 0 <;> by_cases h2 : a = d <;> by_cases h3 : mag b = 0 <;> simp [h1, h2, h3]
/-- The sum of a turned block's diagonal, and its determinant. -/
theorem sums_near {c n A B C D sA sB sC sD m : Rat} (h : Near c n A B C D sA sB sC sD (170 * (ulp * m))) (o : rabs (c * c + n * n - 1) ≤ 45 * ulp) (hA : rabs A ≤ m) (hB : rabs B ≤ m) (hC : rabs C ≤ m) (hD : rabs D ≤ m) :
    rabs (A + D - (sA + sD)) ≤ 440 * (ulp * m) ∧ rabs (A * D - B * C - (sA * sD - sB * sC)) ≤ 1600 * (ulp * (m * m)) ∧ rabs (sA + sD) ≤ 5 * m := by
  have u := u_small
  have m0 : 0 ≤ m := Rat.le_trans (rabs_nonneg _) hA
  have um := uu m0
  obtain ⟨h1, h2, h3, h4⟩ := h
  obtain ⟨z00, e00⟩ : ∃ z, z = c * (c * A + n * C) + n * (c * B + n * D) := ⟨_, rfl⟩
  obtain ⟨z01, e01⟩ : ∃ z, z = c * (c * B + n * D) - n * (c * A + n * C) := ⟨_, rfl⟩
  obtain ⟨z10, e10⟩ : ∃ z, z = c * (c * C - n * A) + n * (c * D - n * B) := ⟨_, rfl⟩
  obtain ⟨z11, e11⟩ : ∃ z, z = c * (c * D - n * B) - n * (c * C - n * A) := ⟨_, rfl⟩
  rw [← e00] at h1
  rw [← e01] at h2
  rw [← e10] at h3
  rw [← e11] at h4
  have lo := absle.mp o
  have tr : z00 + z11 = (c * c + n * n - 1) * (A + D) + (A + D) := by rw [e00, e11]; grind
  have aD : rabs (A + D) ≤ 2 * m := by have := rabs_add A D; grind
  have t1 := mulB o aD
  have t2 : 45 * ulp * (2 * m) = 90 * (ulp * m) := by grind
  rw [t2] at t1
  have l1 := absle.mp h1
  have l4 := absle.mp h4
  have lt := absle.mp t1
  have T : rabs (A + D - (sA + sD)) ≤ 440 * (ulp * m) := by
    rw [absle]
    generalize (c * c + n * n - 1) * (A + D) = w at *
    grind
  refine ⟨T, ?_, ?_⟩
  · -- how great the entries are
    have cc := sq_nn c
    have nn := sq_nn n
    have cn : 2 * rabs (c * n) ≤ c * c + n * n := two_le c n
    have g : ∀ {p q r s z : Rat}, rabs p ≤ m → rabs q ≤ m → rabs r ≤ m → rabs s ≤ m → z = c * c * p + c * n * q + c * n * r + n * n * s → rabs z ≤ 201 / 100 * m := fun {p q r s z} hp hq hr hs e => by
      have a1 := absle.mp (mulB (show rabs (c * c) ≤ c * c by rw [rabs_of_nonneg cc]; exact Rat.le_refl) hp)
      have a2 := absle.mp (mulB (Rat.le_refl (a := rabs (c * n))) hq)
      have a3 := absle.mp (mulB (Rat.le_refl (a := rabs (c * n))) hr)
      have a4 := absle.mp (mulB (show rabs (n * n) ≤ n * n by rw [rabs_of_nonneg nn]; exact Rat.le_refl) hs)
      have k1 := Rat.mul_le_mul_of_nonneg_right cn m0
      have k2 := Rat.mul_le_mul_of_nonneg_right (show c * c + n * n ≤ 1001 / 1000 by grind) m0
      rw [e, absle]
      generalize rabs (c * n) = w at *
      grind
    have ng : ∀ {x : Rat}, rabs x ≤ m → rabs (-x) ≤ m := fun h => by rw [rabs_neg]; exact h
    have g00 : rabs z00 ≤ 201 / 100 * m := g hA hC hB hD (by rw [e00]; grind)
    have g01 : rabs z01 ≤ 201 / 100 * m := g hB hD (ng hA) (ng hC) (by rw [e01]; grind)
    have g10 : rabs z10 ≤ 201 / 100 * m := g hC (ng hA) hD (ng hB) (by rw [e10]; grind)
    have g11 : rabs z11 ≤ 201 / 100 * m := g hD (ng hB) (ng hC) hA (by rw [e11]; grind)
    -- the determinant
    have l2 := absle.mp h2
    have l3 := absle.mp h3
    have sAm : rabs sA ≤ 202 / 100 * m := by have := absle.mp g00; rw [absle]; grind
    have sBm : rabs sB ≤ 202 / 100 * m := by have := absle.mp g01; rw [absle]; grind
    have k : ∀ {x y : Rat}, rabs x ≤ 170 * (ulp * m) → rabs y ≤ 202 / 100 * m → rabs (x * y) ≤ 344 * (ulp * (m * m)) := fun {x y} hx hy => by
      have a := mulB hx hy
      have e : 170 * (ulp * m) * (202 / 100 * m) = 170 * 202 / 100 * (ulp * (m * m)) := by grind
      rw [e] at a
      have := Rat.mul_nonneg (Rat.le_of_lt u.1) (sq_nn m)
      grind
    have up : ∀ {x : Rat}, rabs x ≤ 201 / 100 * m → rabs x ≤ 202 / 100 * m := fun h => by grind
    have d1 := absle.mp (k h1 (up g11))
    have d2 := absle.mp (k h4 sAm)
    have d3 := absle.mp (k h2 (up g10))
    have d4 := absle.mp (k h3 sBm)
    have dz : z00 * z11 - z01 * z10 = (c * c + n * n) * (c * c + n * n) * (A * D - B * C) := by rw [e00, e01, e10, e11]; grind
    have b1 : rabs (A * D - B * C) ≤ 2 * (m * m) := by
      have x1 := absle.mp (mulB hA hD)
      have x2 := absle.mp (mulB hB hC)
      rw [absle]; grind
    have b2 : rabs ((c * c + n * n) * (c * c + n * n) - 1) ≤ 91 * ulp := by
      have e : (c * c + n * n) * (c * c + n * n) - 1 = (c * c + n * n - 1) * (c * c + n * n + 1) := by grind
      have x1 : rabs (c * c + n * n + 1) ≤ 2001 / 1000 := by rw [absle]; grind
      rw [e]
      have := mulB o x1
      grind
    have b3 := absle.mp (mulB b2 b1)
    have mm := Rat.mul_nonneg (Rat.le_of_lt u.1) (sq_nn m)
    have e91 : 91 * ulp * (2 * (m * m)) = 182 * (ulp * (m * m)) := by grind
    rw [e91] at b3
    have all : A * D - B * C - (sA * sD - sB * sC) = -(((c * c + n * n) * (c * c + n * n) - 1) * (A * D - B * C)) + ((z00 - sA) * z11 + (z11 - sD) * sA - (z01 - sB) * z10 - (z10 - sC) * sB) := by
      have : ((c * c + n * n) * (c * c + n * n) - 1) * (A * D - B * C) = (z00 * z11 - z01 * z10) - (A * D - B * C) := by rw [dz]; grind
      rw [this]; grind
    rw [all, absle]
    generalize ((c * c + n * n) * (c * c + n * n) - 1) * (A * D - B * C) = w at *
    generalize (z00 - sA) * z11 = w1 at *
    generalize (z11 - sD) * sA = w2 at *
    generalize (z01 - sB) * z10 = w3 at *
    generalize (z10 - sC) * sB = w4 at *
    grind
  · have := absle.mp T
    have := absle.mp aD
    rw [absle]; grind
end Gim
