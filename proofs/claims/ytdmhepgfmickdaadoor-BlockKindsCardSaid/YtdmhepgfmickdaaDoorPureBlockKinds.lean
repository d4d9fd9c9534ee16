/- BlockKinds: a block of whole numbers whose eigenvalues are a pair, or two real ones that are far from each other, comes out so; for every input. -/
import Derived.Test.YtdmhepgfmickdaaDoorTx3
import Derived.Test.YtdmhepgfmickdaaDoorRx0
set_option linter.constructorNameAsVariable false
set_option linter.unusedSimpArgs false
set_option linter.unusedVariables false
set_option linter.unusedSectionVars false
namespace Go.Proofs.YtdmhepgfmickdaaDoor.Pure
open Gim Go Go.RowKit Go.Proofs.YtdmhepgfmickdaaDoor.F Go.Proofs.YtdmhepgfmickdaaDoorW.PrintWords Go.Proofs.YtdmhepgfmickdaaDoorW.PrintLast
set_option linter.unusedVariables false
set_option linter.unusedSectionVars false

/-- A small whole number. -/
theorem whole_ev {z : Int} (h0 : -64 ≤ z) (h1 : z ≤ 63) : ∃ r, Ev (fun K => gimballaw15_BlockKinds_1.f K z) r ∧ U r ∧ fin r ∧ val r = (z : Rat) := by
  obtain ⟨n, l, e, ev, nm⟩ := int_ev (z := z) (by omega) (by omega)
  obtain ⟨r, f, er, R⟩ := near_ev (by decide) (by decide) nm
  have ex : ∃ b, U b ∧ fin b ∧ val b = (z : Rat) := by
    by_cases hz : z = 0
    · exact ⟨0, ⟨by decide, by decide⟩, by decide, by rw [hz]; decide +kernel⟩
    · obtain ⟨D, hD, hDz⟩ : ∃ D : Int, 0 < D ∧ (z = D ∨ z = -D) ∧ D ≤ 64 := by
        by_cases s : z < 0
        · exact ⟨-z, by omega, .inr (by omega), by omega⟩
        · exact ⟨z, by omega, .inl rfl, by omega⟩
      obtain ⟨m, m0, hm⟩ := repr_exists (D := D) (G := 0) hD (by omega) (by decide)
      rw [pw_zero, Rat.mul_one] at hm
      have mI : m < INF := by
        have h6 : vm m < vm INF := by
          rw [hm]
          have a1 : (D : Rat) ≤ ((64 : Int) : Rat) := by exact_mod_cast hDz.2
          have a2 : ((64 : Int) : Rat) < vm INF := by decide +kernel
          grind
        exact (vm_lt_iff (by omega) (by decide)).mp h6
      have hI : INF < 9223372036854775808 := by decide
      rcases hDz.1 with h | h
      · refine ⟨signed false m, U_signed (by omega) (by omega), by unfold fin; rw [mag_signed (by omega) (by omega)]; exact mI, ?_⟩
        rw [val_signed (by omega) (by omega), hm, h, if_neg (by decide)]
      · refine ⟨signed true m, U_signed (by omega) (by omega), by unfold fin; rw [mag_signed (by omega) (by omega)]; exact mI, ?_⟩
        rw [val_signed (by omega) (by omega), hm, h, if_pos rfl]; push_cast; rfl
  obtain ⟨b, ub, fb, vb⟩ := ex
  obtain ⟨f0, _⟩ := R.of_exact ub fb vb
  have ur := R.range.1
  rw [f0] at R
  obtain ⟨v, fr⟩ := R.exact
  refine ⟨r, ?_, ur, fr, v⟩
  unfold gimballaw15_BlockKinds_1.f
  exact Ev.bind ev (Ev.bind er (Ev.now _))
theorem prodB {x y : Int} (hx0 : -128 ≤ x) (hx1 : x ≤ 128) (hy0 : -128 ≤ y) (hy1 : y ≤ 128) : -16384 ≤ x * y ∧ x * y ≤ 16384 := by
  have a := Int.mul_nonneg (show 0 ≤ 128 - x by omega) (show 0 ≤ 128 + y by omega)
  have b := Int.mul_nonneg (show 0 ≤ 128 + x by omega) (show 0 ≤ 128 - y by omega)
  have c := Int.mul_nonneg (show 0 ≤ 128 - x by omega) (show 0 ≤ 128 - y by omega)
  have d := Int.mul_nonneg (show 0 ≤ 128 + x by omega) (show 0 ≤ 128 + y by omega)
  constructor <;> grind
/-- The discriminant of whole numbers, against what was reckoned. -/
theorem kinds {A B C D sA sB sC sD m : Rat} {δ : Int} (hδ : (A - D) * (A - D) + 4 * (B * C) = (δ : Rat)) (m0 : 0 ≤ m) (m64 : m ≤ 64) : ((A - D) * (A - D) / 4 + B * C ≤ 70 * (ulp * (m * m)) → δ ≤ 0) ∧
    (rabs (A + D - (sA + sD)) ≤ 440 * (ulp * m) → rabs (A * D - B * C - (sA * sD - sB * sC)) ≤ 1600 * (ulp * (m * m)) → rabs (sA + sD) ≤ 5 * m → rabs A ≤ m → rabs D ≤ m → sC = 0 → 0 ≤ δ) := by
  have u := u_small
  have mm : m * m ≤ 4096 := by
    have := sq_mono m0 m64
    grind
  have umm := uul mm
  have small : 100000 * ulp ≤ 1 / 1000 := by decide +kernel
  have tiny : ulp * 4096 * 100000 ≤ 1 / 1000 := by decide +kernel
  constructor
  · intro h
    refine Int.not_lt.mp fun hp => ?_
    have h1 : (1 : Rat) ≤ (δ : Rat) := by exact_mod_cast (by omega : 1 ≤ δ)
    rw [← hδ] at h1
    generalize (A - D) * (A - D) = w1 at *
    generalize B * C = w2 at *
    generalize ulp * (m * m) = w3 at *
    grind
  · intro T Dt sm lA lD sC0
    refine Int.not_lt.mp fun hp => ?_
    have h1 : (δ : Rat) ≤ ((-1 : Int) : Rat) := by exact_mod_cast (by omega : δ ≤ -1)
    have h2 : ((-1 : Int) : Rat) = -1 := by decide
    rw [h2, ← hδ] at h1
    -- the discriminant is the sum's square without four times the determinant
    have e1 : (A - D) * (A - D) + 4 * (B * C) = (A + D) * (A + D) - 4 * (A * D - B * C) := by grind
    have e2 : (sA - sD) * (sA - sD) = (sA + sD) * (sA + sD) - 4 * (sA * sD - sB * sC) := by rw [sC0]; grind
    have q := sq_nn (sA - sD)
    have t1 : rabs (A + D + (sA + sD)) ≤ 8 * m := by
      have a1 := rabs_add A D
      have a2 := rabs_add (A + D) (sA + sD)
      grind
    have t2 := mulB T t1
    have e3 : 440 * (ulp * m) * (8 * m) = 3520 * (ulp * (m * m)) := by grind
    have e4 : (A + D - (sA + sD)) * (A + D + (sA + sD)) = (A + D) * (A + D) - (sA + sD) * (sA + sD) := by grind
    rw [e3, e4] at t2
    have b1 := absle.mp t2
    have b2 := absle.mp Dt
    rw [e2] at q
    rw [e1] at h1
    generalize (A + D) * (A + D) = w1 at *
    generalize (sA + sD) * (sA + sD) = w2 at *
    generalize A * D - B * C = w3 at *
    generalize sA * sD - sB * sC = w4 at *
    generalize ulp * (m * m) = w5 at *
    grind
theorem BlockKinds (a0 : Int) (wa0 : (Lit.int .i64 a0).wf = true) (b0 : Int) (wb0 : (Lit.int .i64 b0).wf = true) (c0 : Int) (wc0 : (Lit.int .i64 c0).wf = true) (d0 : Int) (wd0 : (Lit.int .i64 d0).wf = true) : ∃ k, gimballaw15_BlockKinds.f k a0 b0 c0 d0 = some true := by
  have u := u_small
  apply Ev.rounds
  unfold gimballaw15_BlockKinds.f
  have hb : ∀ x : Int, ∃ y : Int, wrap64 (Go.bits .and .i64 x 127 - 64) = y ∧ -64 ≤ y ∧ y ≤ 63 := fun x => by
    have e : Go.bits .and .i64 x 127 = x % 128 := i64_and 7 (by decide) x
    refine ⟨x % 128 - 64, ?_, by omega, by omega⟩
    rw [e, w64 (by omega) (by omega)]
  obtain ⟨a, ea, a1, a2⟩ := hb a0
  obtain ⟨b, eb, b1, b2⟩ := hb b0
  obtain ⟨c, ec, c1, c2⟩ := hb c0
  obtain ⟨d, ed, d1, d2⟩ := hb d0
  rw [ea, eb, ec, ed]
  obtain ⟨A, evA, uA, fA, vA⟩ := whole_ev a1 a2
  obtain ⟨B, evB, uB, fB, vB⟩ := whole_ev b1 b2
  obtain ⟨C, evC, uC, fC, vC⟩ := whole_ev c1 c2
  obtain ⟨D, evD, uD, fD, vD⟩ := whole_ev d1 d2
  obtain ⟨tc, ts, sA, sB, sC, sD, F, ev, utc, uts, usA, usB, usC, usD, ftc, fts, O, pl, m, m0, lA, lB, lC, lD, hm, quiet, hN, hK⟩ := Standard_words uA uB uC uD fA fB fC fD
  refine Ev.call rfl (Ev.bind evA (Ev.bind evB (Ev.bind evC (Ev.bind evD (Ev.bind ev (Ev.pos (by trivial) (Ev.call (law_plain usB usC) ?_)))))))
  rw [pl]
  refine Ev.succ ?_
  simp only [gimballaw15_BlockKinds.j0]
  have p1 := prodB (x := a - d) (y := a - d) (by omega) (by omega) (by omega) (by omega)
  have p2 := prodB (x := b) (y := c) (by omega) (by omega) (by omega) (by omega)
  have e1 : wrap64 (a - d) = a - d := w64 (by omega) (by omega)
  have e2 : wrap64 (4 * b) = 4 * b := w64 (by omega) (by omega)
  have e3 : 4 * b * c = 4 * (b * c) := by rw [Int.mul_assoc]
  obtain ⟨δ, hδ⟩ : ∃ δ, δ = (a - d) * (a - d) + 4 * (b * c) := ⟨_, rfl⟩
  have eδ : wrap64 (wrap64 (wrap64 (a - d) * wrap64 (a - d)) + wrap64 (wrap64 (4 * b) * c)) = δ := by
    rw [e1, e2, e3]
    generalize (a - d) * (a - d) = w1 at *
    generalize b * c = w2 at *
    rw [w64 (x := w1) (by omega) (by omega), w64 (x := 4 * w2) (by omega) (by omega), w64 (by omega) (by omega)]
    exact hδ.symm
  rw [eδ]
  -- sizes
  have ab : ∀ {x : Int} {X : Int}, val X = (x : Rat) → -64 ≤ x → x ≤ 63 → rabs (val X) ≤ 64 := fun {x X} h l1 l2 => by
    rw [h, absle]
    have k1 : ((-64 : Int) : Rat) ≤ (x : Rat) := by exact_mod_cast l1
    have k2 : (x : Rat) ≤ ((63 : Int) : Rat) := by exact_mod_cast l2
    have k3 : ((-64 : Int) : Rat) = -64 := by decide
    have k4 : ((63 : Int) : Rat) = 63 := by decide
    rw [k3] at k1
    rw [k4] at k2
    grind
  have m64 : m ≤ 64 := by
    rcases hm with h | h | h | h <;> rw [h]
    · exact ab vA a1 a2
    · exact ab vB b1 b2
    · exact ab vC c1 c2
    · exact ab vD d1 d2
  have hδr : (val A - val D) * (val A - val D) + 4 * (val B * val C) = (δ : Rat) := by
    rw [vA, vB, vC, vD, hδ]; push_cast; rfl
  obtain ⟨K1, K2⟩ := kinds (sA := val sA) (sB := val sB) (sC := val sC) (sD := val sD) hδr m0 m64
  refine Ev.neg (by decide) ?_
  by_cases neg0 : δ < 0
  · refine Ev.pos neg0 (Ev.call (word_Abs_mag usC) ?_)
    -- not all are nought
    have m1 : 1 ≤ m := by
      refine Rat.not_lt.mp fun hlt => ?_
      have z : ∀ {x X : Int}, val X = (x : Rat) → rabs (val X) ≤ m → x = 0 := fun {x X} h l => by
        refine Classical.byContradiction fun hx => ?_
        have : (1 : Rat) ≤ rabs (val X) := by
          rw [h]
          unfold rabs
          by_cases s : x < 0
          · have h1 : (x : Rat) ≤ ((-1 : Int) : Rat) := by exact_mod_cast (by omega : x ≤ -1)
            have h2 : ((-1 : Int) : Rat) = -1 := by decide
            rw [h2] at h1
            rw [if_pos (by grind)]; grind
          · have h1 : (1 : Rat) ≤ x := by exact_mod_cast (by omega : 1 ≤ x)
            rw [if_neg (by grind)]; exact h1
        grind
      have za := z vA lA
      have zb := z vB lB
      have zd := z vD lD
      rw [za, zb, zd] at hδ
      simp at hδ
      omega
    have h6 := quiet m1 (Rat.le_trans m64 (by decide +kernel))
    obtain ⟨gA, gB, gC, gD, near⟩ := hN h6
    obtain ⟨T, Dt, S5⟩ := sums_near near O lA lB lC lD
    have ne : mag sC ≠ 0 := fun h => by
      have := K2 T Dt S5 lA lD (val_zero_iff.mpr h)
      omega
    rw [show (mag sC != 0) = true by simpa using ne]
    exact Ev.now _
  · refine Ev.neg neg0 ?_
    by_cases zero : δ = 0
    · exact Ev.pos zero (Ev.now _)
    · refine Ev.neg zero (Ev.call (word_Abs_mag usC) ?_)
      have e0 : mag sC = 0 := by
        rcases hK with h | h
        · exact h
        · have := K1 h
          omega
      rw [show (mag sC == 0) = true by simpa using e0]
      exact Ev.now _
end Go.Proofs.YtdmhepgfmickdaaDoor.Pure
