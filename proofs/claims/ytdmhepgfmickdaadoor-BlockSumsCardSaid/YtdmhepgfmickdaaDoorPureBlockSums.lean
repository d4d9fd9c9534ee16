/- BlockSums: the sum of a block's diagonal is kept, near; so is its determinant; for every input. -/
import Derived.Test.YtdmhepgfmickdaaDoorTx4
import Derived.Test.YtdmhepgfmickdaaDoorRx0
set_option linter.constructorNameAsVariable false
set_option linter.unusedSimpArgs false
set_option linter.unusedVariables false
set_option linter.unusedSectionVars false
namespace Go.Proofs.YtdmhepgfmickdaaDoor.Pure
open Gim Go Go.RowKit Go.Proofs.YtdmhepgfmickdaaDoor.F Go.Proofs.YtdmhepgfmickdaaDoorW.PrintWords Go.Proofs.YtdmhepgfmickdaaDoorW.PrintLast
set_option linter.unusedVariables false
set_option linter.unusedSectionVars false

theorem sum_add {E1 E2 T : Int} {x y : Rat} {n1 n2 : Bool} {m1 m2 : List Int} {e1 e2 : Int} (a : Nm E1 x n1 m1 e1) (b : Nm E2 y n2 m2 e2) (h2 : E1 + 1 ≤ T ∧ E2 + 1 ≤ T) (h3 : 1 ≤ T ∧ T ≤ 100000) :
    ∃ r l f, Ev (fun K => dyad_Num_Add.f K n1 m1 e1 n2 m2 e2) (r, l, f) ∧ Nm T (x + y) r l f := by
  obtain ⟨r3, l3, f3, v3, k3⟩ := num_add_ev (E := T - 1) (by omega) (by omega) (a.mono (by omega)) (b.mono (by omega))
  exact ⟨r3, l3, f3, v3, k3.mono (by omega)⟩
theorem sum_sub {E1 E2 T : Int} {x y : Rat} {n1 n2 : Bool} {m1 m2 : List Int} {e1 e2 : Int} (a : Nm E1 x n1 m1 e1) (b : Nm E2 y n2 m2 e2) (h2 : E1 + 1 ≤ T ∧ E2 + 1 ≤ T) (h3 : 1 ≤ T ∧ T ≤ 100000) :
    ∃ r l f, Ev (fun K => dyad_Num_Sub.f K n1 m1 e1 n2 m2 e2) (r, l, f) ∧ Nm T (x - y) r l f := by
  obtain ⟨r3, l3, f3, v3, k3⟩ := num_sub_ev (E := T - 1) (by omega) (by omega) (a.mono (by omega)) (b.mono (by omega))
  exact ⟨r3, l3, f3, v3, k3.mono (by omega)⟩
theorem sum_mul {E1 E2 T : Int} {x y : Rat} {n1 n2 : Bool} {m1 m2 : List Int} {e1 e2 : Int} (a : Nm E1 x n1 m1 e1) (b : Nm E2 y n2 m2 e2) (h1 : 0 ≤ E1 ∧ 0 ≤ E2) (h2 : E1 + E2 ≤ T) (h3 : T ≤ 100000) :
    ∃ r l f, Ev (fun K => dyad_Num_Mul.f K n1 m1 e1 n2 m2 e2) (r, l, f) ∧ Nm T (x * y) r l f := by
  obtain ⟨r3, l3, f3, v3, k3⟩ := num_mul_ev (by omega) (by omega) (by omega) (by omega) a b
  exact ⟨r3, l3, f3, v3, k3.mono (by omega)⟩
section
variable {a b c d sA sB sC sD : Int} (ua : U a) (ub : U b) (uc : U c) (ud : U d) (fa : fin a) (fb : fin b) (fc : fin c) (fd : fin d)
  (usA : U sA) (usB : U sB) (usC : U sC) (usD : U sD) (fA : fin sA) (fB : fin sB) (fC : fin sC) (fD : fin sD) {m : Rat} (m0 : 0 ≤ m)
  (hm : m = rabs (val a) ∨ m = rabs (val b) ∨ m = rabs (val c) ∨ m = rabs (val d))
  (T : rabs (val a + val d - (val sA + val sD)) ≤ 440 * (ulp * m)) (Dt : rabs (val a * val d - val b * val c - (val sA * val sD - val sB * val sC)) ≤ 1600 * (ulp * (m * m)))
include ua ub uc ud fa fb fc fd usA usB usC usD fA fB fC fD m0 hm T Dt
theorem told : Ev (fun K => gimballaw15_BlockSums.j0 K false a b c d sA sB sC sD) true := by
  have u := u_small
  have s := max_sq hm
  have us := uul s
  have nn : 0 ≤ ulp * (m * m) := Rat.mul_nonneg (Rat.le_of_lt u.1) (sq_nn m)
  refine Ev.succ ?_
  simp only [gimballaw15_BlockSums.j0]
  obtain ⟨ra, la, qa, rb, lb, qb, rc, lc, qc, rd_, ld, qd, e4, na, nb, nc', nd⟩ := law_four ua ub uc ud fa fb fc fd
  obtain ⟨rA, lA, qA, rB, lB, qB, rC, lC, qC, rD, lD, qD, e5, nA, nB, nC, nD⟩ := law_four usA usB usC usD fA fB fC fD
  obtain ⟨v1, v2, v3, ev, nv'⟩ := size_ev (na.mono (show (1074 : Int) ≤ 5000 by decide)) (nb.mono (show (1074 : Int) ≤ 5000 by decide)) (nc'.mono (show (1074 : Int) ≤ 5000 by decide)) (nd.mono (show (1074 : Int) ≤ 5000 by decide))
  obtain ⟨g1, g2, g3, eg, ng⟩ := int_ev (z := 2000) (by decide) (by decide)
  obtain ⟨t, nt⟩ := two_ev (E := 53) (a := -53) (by decide) (by decide) (by decide) (by decide)
  obtain ⟨k1, k2, k3, ek, nk⟩ := sum_mul (T := 200) ng nt (by omega) (by omega) (by omega)
  obtain ⟨_, _, _, p1, n1⟩ := sum_add (T := 2000) na nd (by omega) (by omega)
  obtain ⟨_, _, _, p2, n2⟩ := sum_add (T := 2000) nA nD (by omega) (by omega)
  obtain ⟨_, _, _, p3, n3⟩ := sum_sub (T := 3000) n1 n2 (by omega) (by omega)
  obtain ⟨_, _, _, p4, n4⟩ := sum_mul (T := 3000) na nd (by omega) (by omega) (by omega)
  obtain ⟨_, _, _, p5, n5⟩ := sum_mul (T := 3000) nb nc' (by omega) (by omega) (by omega)
  obtain ⟨_, _, _, p6, n6⟩ := sum_sub (T := 4000) n4 n5 (by omega) (by omega)
  obtain ⟨_, _, _, p7, n7⟩ := sum_mul (T := 3000) nA nD (by omega) (by omega) (by omega)
  obtain ⟨_, _, _, p8, n8⟩ := sum_mul (T := 3000) nB nC (by omega) (by omega) (by omega)
  obtain ⟨_, _, _, p9, n9⟩ := sum_sub (T := 4000) n7 n8 (by omega) (by omega)
  obtain ⟨_, _, _, p10, n10⟩ := sum_sub (T := 5000) n6 n9 (by omega) (by omega)
  obtain ⟨_, _, _, p11, n11⟩ := sum_mul (T := 20000) n3 n3 (by omega) (by omega) (by omega)
  obtain ⟨_, _, _, p12, n12⟩ := sum_mul (T := 20000) nv' nk (by omega) (by omega) (by omega)
  obtain ⟨_, _, _, p13, n13⟩ := sum_mul (T := 30000) n12 nk (by omega) (by omega) (by omega)
  have c1 := num_cmp_ev (E := 30000) (by decide) (by decide) (n11.mono (by decide)) n13
  obtain ⟨ab, nab⟩ := abs_ev n10
  have c2 := num_cmp_ev (E := 30000) (by decide) (by decide) (nab.mono (by decide)) (n12.mono (by decide))
  have e2000 : ((2000 : Int) : Rat) = 2000 := rfl
  have z1 := rsgn_le0 (x := (val a + val d - (val sA + val sD)) * (val a + val d - (val sA + val sD)) - (val a * val a + val b * val b + val c * val c + val d * val d) * (((2000 : Int) : Rat) * pw (-53)) * (((2000 : Int) : Rat) * pw (-53))) (by
    rw [e2000]
    show _ - (val a * val a + val b * val b + val c * val c + val d * val d) * (2000 * ulp) * (2000 * ulp) ≤ 0
    have x := sq_mono (rabs_nonneg _) T
    rw [rabs_sq] at x
    have e1 : 440 * (ulp * m) * (440 * (ulp * m)) = 193600 * (ulp * (ulp * (m * m))) := by grind
    have e2 : (val a * val a + val b * val b + val c * val c + val d * val d) * (2000 * ulp) * (2000 * ulp) = 4000000 * (ulp * (ulp * (val a * val a + val b * val b + val c * val c + val d * val d))) := by grind
    rw [e1] at x
    rw [e2]
    have us2 := uul us
    have nn2 := Rat.mul_nonneg (Rat.le_of_lt u.1) nn
    generalize (val a + val d - (val sA + val sD)) * (val a + val d - (val sA + val sD)) = w at *
    generalize ulp * (ulp * (m * m)) = w1 at *
    generalize ulp * (ulp * (val a * val a + val b * val b + val c * val c + val d * val d)) = w2 at *
    grind)
  have z2 := rsgn_le0 (x := rabs (val a * val d - val b * val c - (val sA * val sD - val sB * val sC)) - (val a * val a + val b * val b + val c * val c + val d * val d) * (((2000 : Int) : Rat) * pw (-53))) (by
    rw [e2000]
    show _ - (val a * val a + val b * val b + val c * val c + val d * val d) * (2000 * ulp) ≤ 0
    have e2 : (val a * val a + val b * val b + val c * val c + val d * val d) * (2000 * ulp) = 2000 * (ulp * (val a * val a + val b * val b + val c * val c + val d * val d)) := by grind
    rw [e2]
    generalize rabs (val a * val d - val b * val c - (val sA * val sD - val sB * val sC)) = w at *
    generalize ulp * (m * m) = w1 at *
    generalize ulp * (val a * val a + val b * val b + val c * val c + val d * val d) = w2 at *
    grind)
  refine Ev.neg (by decide) (Ev.bind e4 (Ev.bind e5 (Ev.bind ev (Ev.bind eg (Ev.call t (Ev.bind ek (Ev.bind p1 (Ev.bind p2 (Ev.bind p3 (Ev.bind p4 (Ev.bind p5 (Ev.bind p6 (Ev.bind p7 (Ev.bind p8 (Ev.bind p9 (Ev.bind p10 (Ev.bind p11 (Ev.bind p12 (Ev.bind p13 (Ev.bind c1 ?_))))))))))))))))))))
  refine Ev.pos z1 (Ev.call ab (Ev.bind p12 (Ev.bind c2 ?_)))
  rw [decide_eq_true z2]
  exact Ev.now _
end
theorem BlockSums (a : Int) (wa0 : (Lit.int .u64 a).wf = true) (b : Int) (wb0 : (Lit.int .u64 b).wf = true) (c : Int) (wc0 : (Lit.int .u64 c).wf = true) (d : Int) (wd0 : (Lit.int .u64 d).wf = true) : ∃ k, gimballaw15_BlockSums.f k a b c d = some true := by
  have ua := U_of_wf wa0
  have ub := U_of_wf wb0
  have uc := U_of_wf wc0
  have ud := U_of_wf wd0
  apply Ev.rounds
  unfold gimballaw15_BlockSums.f
  refine Ev.call rfl ?_
  have out : ∀ {p q r s : Int}, Ev (fun K => gimballaw15_BlockSums.j0 K true a b c d p q r s) true := fun {p q r s} => by
    refine Ev.succ ?_
    simp only [gimballaw15_BlockSums.j0]
    exact Ev.pos trivial (Ev.now _)
  by_cases all : fin a ∧ fin b ∧ fin c ∧ fin d
  · obtain ⟨fa, fb, fc, fd⟩ := all
    obtain ⟨tc, ts, sA, sB, sC, sD, F, ev, utc, uts, usA, usB, usC, usD, ftc, fts, O, pl, m, m0, lA, lB, lC, lD, hm, _, hN, _⟩ := Standard_words ua ub uc ud fa fb fc fd
    refine Ev.bind ev (Ev.pos (by trivial) ?_)
    by_cases h6 : Go.bits .and .u8 F 6 = 0
    · rw [show (Go.bits .and .u8 F 6 != 0) = false by rw [h6]; rfl]
      obtain ⟨fA, fB, fC, fD, near⟩ := hN h6
      obtain ⟨T, Dt, _⟩ := sums_near near O lA lB lC lD
      exact told ua ub uc ud fa fb fc fd usA usB usC usD fA fB fC fD m0 hm T Dt
    · rw [show (Go.bits .and .u8 F 6 != 0) = true by simpa using h6]
      exact out
  · exact Ev.bind (Standard_none ua ub uc ud all) (Ev.neg (by decide) out)
end Go.Proofs.YtdmhepgfmickdaaDoor.Pure
