/- BlockStandards: any block, turned, has the plain form, and is near itself, turned exactly; for every input. -/
import Derived.Test.YtdmhepgfmickdaaDoorTx4
import Derived.Test.YtdmhepgfmickdaaDoorRx0
set_option linter.constructorNameAsVariable false
set_option linter.unusedSimpArgs false
set_option linter.unusedVariables false
set_option linter.unusedSectionVars false
namespace Go.Proofs.YtdmhepgfmickdaaDoor.Pure
open Gim Go Go.RowKit Go.Proofs.YtdmhepgfmickdaaDoor.F Go.Proofs.YtdmhepgfmickdaaDoorW.PrintWords Go.Proofs.YtdmhepgfmickdaaDoorW.PrintLast
set_option linter.unusedVariables false
set_option linter.unusedSectionVars false

/-- The squares' sum is small enough. -/
theorem enough {c n A B C D sA sB sC sD m : Rat} (h : Near c n A B C D sA sB sC sD (170 * (ulp * m))) (hm : m = rabs A ∨ m = rabs B ∨ m = rabs C ∨ m = rabs D) (m0 : 0 ≤ m) :
    (c * (c * A + n * C) + n * (c * B + n * D) - sA) * (c * (c * A + n * C) + n * (c * B + n * D) - sA) + (c * (c * B + n * D) - n * (c * A + n * C) - sB) * (c * (c * B + n * D) - n * (c * A + n * C) - sB) +
    (c * (c * C - n * A) + n * (c * D - n * B) - sC) * (c * (c * C - n * A) + n * (c * D - n * B) - sC) + (c * (c * D - n * B) - n * (c * C - n * A) - sD) * (c * (c * D - n * B) - n * (c * C - n * A) - sD)
    - (A * A + B * B + C * C + D * D) * (((400 : Int) : Rat) * pw (-53)) * (((400 : Int) : Rat) * pw (-53)) ≤ 0 := by
  have u := u_small
  have s := max_sq hm
  obtain ⟨h1, h2, h3, h4⟩ := h
  have v0 : 0 ≤ 170 * (ulp * m) := by have := (uu m0).1; grind
  have sq : ∀ {x : Rat}, rabs x ≤ 170 * (ulp * m) → x * x ≤ 28900 * (ulp * ulp * (m * m)) := fun {x} h => by
    have a := sq_mono (rabs_nonneg x) h
    rw [rabs_sq] at a
    have e : 170 * (ulp * m) * (170 * (ulp * m)) = 28900 * (ulp * ulp * (m * m)) := by grind
    rw [e] at a
    exact a
  have a1 := sq h1
  have a2 := sq h2
  have a3 := sq h3
  have a4 := sq h4
  have b := Rat.mul_le_mul_of_nonneg_left s (show 0 ≤ ulp * ulp from sq_nn _)
  have e : (A * A + B * B + C * C + D * D) * (((400 : Int) : Rat) * pw (-53)) * (((400 : Int) : Rat) * pw (-53)) = 160000 * (ulp * ulp * (A * A + B * B + C * C + D * D)) := by
    show (A * A + B * B + C * C + D * D) * (((400 : Int) : Rat) * ulp) * (((400 : Int) : Rat) * ulp) = _
    have e4 : ((400 : Int) : Rat) = 400 := rfl
    rw [e4]; grind
  rw [e]
  have nn : 0 ≤ ulp * ulp * (m * m) := Rat.mul_nonneg (sq_nn _) (sq_nn _)
  generalize ulp * ulp * (m * m) = w at *
  generalize ulp * ulp * (A * A + B * B + C * C + D * D) = w2 at *
  generalize (c * (c * A + n * C) + n * (c * B + n * D) - sA) * (c * (c * A + n * C) + n * (c * B + n * D) - sA) = x1 at *
  generalize (c * (c * B + n * D) - n * (c * A + n * C) - sB) * (c * (c * B + n * D) - n * (c * A + n * C) - sB) = x2 at *
  generalize (c * (c * C - n * A) + n * (c * D - n * B) - sC) * (c * (c * C - n * A) + n * (c * D - n * B) - sC) = x3 at *
  generalize (c * (c * D - n * B) - n * (c * C - n * A) - sD) * (c * (c * D - n * B) - n * (c * C - n * A) - sD) = x4 at *
  grind
/-- A product of exact numbers, and another one, added. -/
theorem mul_add {E1 E2 E3 E4 T : Int} {x y z w : Rat} {n1 n2 n3 n4 : Bool} {m1 m2 m3 m4 : List Int} {e1 e2 e3 e4 : Int} (a : Nm E1 x n1 m1 e1) (b : Nm E2 y n2 m2 e2) (c : Nm E3 z n3 m3 e3) (d : Nm E4 w n4 m4 e4)
    (h1 : 0 ≤ E1 ∧ 0 ≤ E2 ∧ 0 ≤ E3 ∧ 0 ≤ E4) (h2 : E1 + E2 + 1 ≤ T ∧ E3 + E4 + 1 ≤ T) (h3 : T ≤ 100000) :
    ∃ r1 l1 f1 r2 l2 f2 r3 l3 f3, Ev (fun K => dyad_Num_Mul.f K n1 m1 e1 n2 m2 e2) (r1, l1, f1) ∧ Ev (fun K => dyad_Num_Mul.f K n3 m3 e3 n4 m4 e4) (r2, l2, f2) ∧ Ev (fun K => dyad_Num_Add.f K r1 l1 f1 r2 l2 f2) (r3, l3, f3) ∧ Nm T (x * y + z * w) r3 l3 f3 := by
  obtain ⟨r1, l1, f1, v1, k1⟩ := num_mul_ev (by omega) (by omega) (by omega) (by omega) a b
  obtain ⟨r2, l2, f2, v2, k2⟩ := num_mul_ev (by omega) (by omega) (by omega) (by omega) c d
  obtain ⟨r3, l3, f3, v3, k3⟩ := num_add_ev (E := T - 1) (by omega) (by omega) (k1.mono (by omega)) (k2.mono (by omega))
  exact ⟨r1, l1, f1, r2, l2, f2, r3, l3, f3, v1, v2, v3, k3.mono (by omega)⟩
theorem mul_sub' {E1 E2 E3 E4 T : Int} {x y z w : Rat} {n1 n2 n3 n4 : Bool} {m1 m2 m3 m4 : List Int} {e1 e2 e3 e4 : Int} (a : Nm E1 x n1 m1 e1) (b : Nm E2 y n2 m2 e2) (c : Nm E3 z n3 m3 e3) (d : Nm E4 w n4 m4 e4)
    (h1 : 0 ≤ E1 ∧ 0 ≤ E2 ∧ 0 ≤ E3 ∧ 0 ≤ E4) (h2 : E1 + E2 + 1 ≤ T ∧ E3 + E4 + 1 ≤ T) (h3 : T ≤ 100000) :
    ∃ r1 l1 f1 r2 l2 f2 r3 l3 f3, Ev (fun K => dyad_Num_Mul.f K n1 m1 e1 n2 m2 e2) (r1, l1, f1) ∧ Ev (fun K => dyad_Num_Mul.f K n3 m3 e3 n4 m4 e4) (r2, l2, f2) ∧ Ev (fun K => dyad_Num_Sub.f K r1 l1 f1 r2 l2 f2) (r3, l3, f3) ∧ Nm T (x * y - z * w) r3 l3 f3 := by
  obtain ⟨r1, l1, f1, v1, k1⟩ := num_mul_ev (by omega) (by omega) (by omega) (by omega) a b
  obtain ⟨r2, l2, f2, v2, k2⟩ := num_mul_ev (by omega) (by omega) (by omega) (by omega) c d
  obtain ⟨r3, l3, f3, v3, k3⟩ := num_sub_ev (E := T - 1) (by omega) (by omega) (k1.mono (by omega)) (k2.mono (by omega))
  exact ⟨r1, l1, f1, r2, l2, f2, r3, l3, f3, v1, v2, v3, k3.mono (by omega)⟩
section
variable {a b c d tc ts sA sB sC sD F : Int} (ua : U a) (ub : U b) (uc : U c) (ud : U d) (fa : fin a) (fb : fin b) (fc : fin c) (fd : fin d)
  (utc : U tc) (uts : U ts) (usA : U sA) (usB : U sB) (usC : U sC) (usD : U sD) (ftc : fin tc) (fts : fin ts) {m : Rat} (m0 : 0 ≤ m)
  (O : rabs (val tc * val tc + val ts * val ts - 1) ≤ 45 * ulp) (pl : plainB sA sB sC sD = true) (hm : m = rabs (val a) ∨ m = rabs (val b) ∨ m = rabs (val c) ∨ m = rabs (val d))
  (hN : Go.bits .and .u8 F 6 = 0 → fin sA ∧ fin sB ∧ fin sC ∧ fin sD ∧ Near (val tc) (val ts) (val a) (val b) (val c) (val d) (val sA) (val sB) (val sC) (val sD) (170 * (ulp * m)))
include ua ub uc ud fa fb fc fd utc uts usA usB usC usD ftc fts m0 O pl hm hN
theorem told : Ev (fun K => gimballaw15_BlockStandards.j0 K F 0 false a b c d tc ts sA sB sC sD) true := by
  obtain ⟨c1, c2, c3, ec, nc⟩ := law_exact utc ftc
  obtain ⟨n1, n2, n3, en, nn⟩ := law_exact uts fts
  refine Ev.succ ?_
  simp only [gimballaw15_BlockStandards.j0]
  refine Ev.neg (by decide) (Ev.pos (by trivial) (Ev.call (law_plain usB usC) (Ev.pos pl (Ev.bind (Plain_ev usB usC) (Ev.call (law_plain usB usC) ?_)))))
  rw [show (plainB sA sB sC sD != plainB sA sB sC sD) = false from bne_self_eq_false _]
  refine Ev.succ ?_
  simp only [gimballaw15_BlockStandards.j1]
  obtain ⟨i1, i2, i3, ei, ni⟩ := int_ev (z := 1) (by decide) (by decide)
  obtain ⟨o1, o2, o3, o4, o5, o6, o7, o8, o9, p1, p2, p3, np⟩ := mul_add (T := 3000) nc nc nn nn (by omega) (by omega) (by omega)
  obtain ⟨s1, s2, s3, es, ns⟩ := num_sub_ev (by decide) (by decide) np (ni.mono (by decide))
  obtain ⟨ab, nab⟩ := abs_ev ns
  obtain ⟨g1, g2, g3, eg, ng⟩ := int_ev (z := 64) (by decide) (by decide)
  obtain ⟨t, nt⟩ := two_ev (E := 53) (a := -53) (by decide) (by decide) (by decide) (by decide)
  obtain ⟨k1, k2, k3, ek, nk⟩ := num_mul_ev (by decide) (by decide) (by decide) (by decide) ng nt
  have ecm := num_cmp_ev (by decide) (by decide) nab (nk.mono (by decide))
  have es0 := rsgn_le0 (x := rabs (val tc * val tc + val ts * val ts - ((1 : Int) : Rat)) - ((64 : Int) : Rat) * pw (-53)) (by
    have e1 : ((1 : Int) : Rat) = 1 := rfl
    have e64 : ((64 : Int) : Rat) = 64 := rfl
    rw [e1, e64]
    show rabs (val tc * val tc + val ts * val ts - 1) - 64 * ulp ≤ 0
    have := u_small
    grind)
  refine Ev.neg (by decide) (Ev.bind ec (Ev.bind en (Ev.bind ei (Ev.call (word_Finite_eq utc) (Ev.pos (decide_eq_true ftc) (Ev.call (word_Finite_eq uts) (Ev.pos (decide_eq_true fts) (Ev.bind p1 (Ev.bind p2 (Ev.bind p3 (Ev.bind es (Ev.call ab (Ev.bind eg (Ev.call t (Ev.bind ek (Ev.bind ecm ?_))))))))))))))))
  rw [decide_eq_false (show ¬ rsgn (rabs (val tc * val tc + val ts * val ts - ((1 : Int) : Rat)) - ((64 : Int) : Rat) * pw (-53)) > 0 by omega)]
  refine Ev.succ ?_
  simp only [gimballaw15_BlockStandards.j2]
  refine Ev.neg (by decide) ?_
  by_cases h6 : Go.bits .and .u8 F 6 = 0
  · refine Ev.pos h6 ?_
    obtain ⟨fA, fB, fC, fD, near⟩ := hN h6
    obtain ⟨ra, la, qa, rb, lb, qb, rc, lc, qc, rd_, ld, qd, e4, na, nb, nc', nd⟩ := law_four ua ub uc ud fa fb fc fd
    obtain ⟨rA, lA, qA, rB, lB, qB, rC, lC, qC, rD, lD, qD, e5, nA, nB, nC, nD⟩ := law_four usA usB usC usD fA fB fC fD
    obtain ⟨_, _, _, _, _, _, _, _, _, y1, y2, y3, Y0⟩ := mul_add (T := 2200) nc na nn nc' (by omega) (by omega) (by omega)
    obtain ⟨_, _, _, _, _, _, _, _, _, y4, y5, y6, Y1⟩ := mul_add (T := 2200) nc nb nn nd (by omega) (by omega) (by omega)
    obtain ⟨_, _, _, _, _, _, _, _, _, y7, y8, y9, Y2⟩ := mul_sub' (T := 2200) nc nc' nn na (by omega) (by omega) (by omega)
    obtain ⟨_, _, _, _, _, _, _, _, _, y10, y11, y12, Y3⟩ := mul_sub' (T := 2200) nc nd nn nb (by omega) (by omega) (by omega)
    obtain ⟨_, _, _, _, _, _, _, _, _, z1, z2, z3, Z0⟩ := mul_add (T := 5000) nc Y0 nn Y1 (by omega) (by omega) (by omega)
    obtain ⟨_, _, _, _, _, _, _, _, _, z4, z5, z6, Z1⟩ := mul_sub' (T := 5000) nc Y1 nn Y0 (by omega) (by omega) (by omega)
    obtain ⟨_, _, _, _, _, _, _, _, _, z7, z8, z9, Z2⟩ := mul_add (T := 5000) nc Y2 nn Y3 (by omega) (by omega) (by omega)
    obtain ⟨_, _, _, _, _, _, _, _, _, z10, z11, z12, Z3⟩ := mul_sub' (T := 5000) nc Y3 nn Y2 (by omega) (by omega) (by omega)
    obtain ⟨g1, g2, g3, eg, ng⟩ := int_ev (z := 400) (by decide) (by decide)
    obtain ⟨k1, k2, k3, ek, nk⟩ := num_mul_ev (by decide) (by decide) (by decide) (by decide) ng nt
    obtain ⟨w1, w2, w3, ew, nw⟩ := square_ev Z0 Z1 Z2 Z3 (nA.mono (by decide)) (nB.mono (by decide)) (nC.mono (by decide)) (nD.mono (by decide))
    obtain ⟨v1, v2, v3, ev, nv'⟩ := size_ev (na.mono (show (1074 : Int) ≤ 5000 by decide)) (nb.mono (show (1074 : Int) ≤ 5000 by decide)) (nc'.mono (show (1074 : Int) ≤ 5000 by decide)) (nd.mono (show (1074 : Int) ≤ 5000 by decide))
    obtain ⟨x1, x2, x3, ex1, nx1⟩ := num_mul_ev (by decide) (by decide) (by decide) (by decide) nv' nk
    obtain ⟨x4, x5, x6, ex2, nx2⟩ := num_mul_ev (by decide) (by decide) (by decide) (by decide) nx1 nk
    have ecm := num_cmp_ev (E := 20000) (by decide) (by decide) (nw.mono (by decide)) (nx2.mono (by decide))
    have fin0 := rsgn_le0 (enough near hm m0)
    refine Ev.bind e4 (Ev.bind y1 (Ev.bind y2 (Ev.bind y3 (Ev.bind y4 (Ev.bind y5 (Ev.bind y6 (Ev.bind y7 (Ev.bind y8 (Ev.bind y9 (Ev.bind y10 (Ev.bind y11 (Ev.bind y12 ?_))))))))))))
    refine Ev.bind z1 (Ev.bind z2 (Ev.bind z3 (Ev.bind z4 (Ev.bind z5 (Ev.bind z6 (Ev.bind z7 (Ev.bind z8 (Ev.bind z9 (Ev.bind z10 (Ev.bind z11 (Ev.bind z12 ?_)))))))))))
    refine Ev.bind eg (Ev.call t (Ev.bind ek (Ev.bind e5 (Ev.bind ew (Ev.bind ev (Ev.bind ex1 (Ev.bind ex2 (Ev.bind ecm ?_))))))))
    rw [decide_eq_true fin0]
    exact Ev.now _
  · exact Ev.neg h6 (Ev.now _)
end
theorem BlockStandards (a : Int) (wa0 : (Lit.int .u64 a).wf = true) (b : Int) (wb0 : (Lit.int .u64 b).wf = true) (c : Int) (wc0 : (Lit.int .u64 c).wf = true) (d : Int) (wd0 : (Lit.int .u64 d).wf = true) : ∃ k, gimballaw15_BlockStandards.f k a b c d = some true := by
  have ua := U_of_wf wa0
  have ub := U_of_wf wb0
  have uc := U_of_wf wc0
  have ud := U_of_wf wd0
  apply Ev.rounds
  unfold gimballaw15_BlockStandards.f
  refine Ev.call rfl ?_
  by_cases all : fin a ∧ fin b ∧ fin c ∧ fin d
  · obtain ⟨fa, fb, fc, fd⟩ := all
    obtain ⟨tc, ts, sA, sB, sC, sD, F, ev, utc, uts, usA, usB, usC, usD, ftc, fts, O, pl, m, m0, lA, lB, lC, lD, hm, _, hN, _⟩ := Standard_words ua ub uc ud fa fb fc fd
    refine Ev.bind ev (Ev.call (word_Finite_eq ua) (Ev.pos (decide_eq_true fa) (Ev.call (word_Finite_eq ub) (Ev.pos (decide_eq_true fb) (Ev.call (word_Finite_eq uc) (Ev.pos (decide_eq_true fc) (Ev.call (word_Finite_eq ud) ?_)))))))
    rw [decide_eq_true fd]
    exact told ua ub uc ud fa fb fc fd utc uts usA usB usC usD ftc fts m0 O pl hm hN
  · refine Ev.bind (Standard_none ua ub uc ud all) ?_
    have out : Ev (fun K => gimballaw15_BlockStandards.j0 K 0 6 true a b c d 4607182418800017408 0 0 0 0 0) true := by
      refine Ev.succ ?_
      simp only [gimballaw15_BlockStandards.j0]
      exact Ev.pos trivial (Ev.now _)
    refine Ev.call (word_Finite_eq ua) ?_
    by_cases fa : fin a
    · refine Ev.pos (decide_eq_true fa) (Ev.call (word_Finite_eq ub) ?_)
      by_cases fb : fin b
      · refine Ev.pos (decide_eq_true fb) (Ev.call (word_Finite_eq uc) ?_)
        by_cases fc : fin c
        · refine Ev.pos (decide_eq_true fc) (Ev.call (word_Finite_eq ud) ?_)
          by_cases fd : fin d
          · exact absurd ⟨fa, fb, fc, fd⟩ all
          · rw [decide_eq_false fd]; exact out
        · exact Ev.neg (by simp [fc]) out
      · exact Ev.neg (by simp [fb]) out
    · exact Ev.neg (by simp [fa]) out
end Go.Proofs.YtdmhepgfmickdaaDoor.Pure
