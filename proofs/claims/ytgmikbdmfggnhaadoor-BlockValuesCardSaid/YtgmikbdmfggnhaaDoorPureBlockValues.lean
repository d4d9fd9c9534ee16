/- BlockValues: the eigenvalues of any block of the plain form; for every input. -/
import Derived.Test.YtgmikbdmfggnhaaDoorTx0
import Derived.Test.YtgmikbdmfggnhaaDoorRx0
set_option linter.constructorNameAsVariable false
set_option linter.unusedSimpArgs false
set_option linter.unusedVariables false
set_option linter.unusedSectionVars false
namespace Go.Proofs.YtgmikbdmfggnhaaDoor.Pure
open Gim Go Go.RowKit Go.Proofs.YtgmikbdmfggnhaaDoor.F Go.Proofs.YtgmikbdmfggnhaaDoorW.PrintWords Go.Proofs.YtgmikbdmfggnhaaDoorW.PrintLast
set_option linter.unusedVariables false
set_option linter.unusedSectionVars false

theorem rsgn_le {x : Rat} (h : x ≤ 0) : rsgn x ≤ 0 := by
  unfold rsgn
  split
  · decide
  · split
    · decide
    · rename_i h1 h2
      exfalso
      grind
theorem exact_ev {a : Int} (ha : U a) (fa : fin a) : ∃ r l f, Ev (fun K => gimballaw15_exact.f K a) (r, l, f) ∧ Nm 1074 (val a) r l f := by
  obtain ⟨r, l, f, ev, nm⟩ := of_ev rfl ha fa
  refine ⟨r, l, f, ?_, nm⟩
  unfold gimballaw15_exact.f
  exact Ev.bind ev (Ev.now _)
theorem wa {a : Int} (h : U a) : word_Abs.f a = some (mag a) := word_Abs_eq h
theorem mag_mag {a : Int} : mag (mag a) = mag a := by unfold mag; omega
theorem U_mag {a : Int} : U (mag a) := by have := mag_lt (a := a); unfold U; omega
/-- A root of a number's magnitude. -/
theorem root_ev {a : Int} (fa : fin a) (h0 : mag a ≠ 0) : ∃ r f, Ev (fun k => more_Sqrt.f k (mag a)) (r, f) ∧ U r ∧ fin r ∧ 0 < val r ∧ neg r = false ∧
    rabs (val a) * ((1 - ulq) * (1 - ulq)) ≤ val r * val r ∧ val r * val r ≤ rabs (val a) * ((1 + ulq) * (1 + ulq)) := by
  obtain ⟨r, f, ev, R⟩ := more_Sqrt_ev (a := mag a) U_mag
  have hI : INF < 9223372036854775808 := by decide
  have hm := mag_lt (a := a)
  have fm : fin (mag a) := by unfold fin; rw [mag_mag]; exact fa
  have ng : neg (mag a) = false := by
    show decide (9223372036854775808 ≤ mag a) = false
    exact decide_eq_false (by omega)
  unfold SqrtR at R
  rw [if_neg (by rw [fin_nan fm]; decide), if_neg (by rw [mag_mag]; unfold fin at fa; rintro (h | h) <;> omega), if_neg (by rw [ng]; decide), mag_mag] at R
  have va : rabs (val a) = vm (mag a) := rabs_val a
  have vlo : pw (-1074) ≤ vm (mag a) := by
    have : vm 1 ≤ vm (mag a) := (vm_le_iff (by decide) hm.1).mpr (by omega)
    have e1 : vm (enc (-1074) 1) = ((1 : Int) : Rat) * pw (-1074) := vm_enc (by decide) (by decide) (by decide) (.inl rfl)
    rw [show enc (-1074) 1 = 1 from by decide] at e1
    rw [e1] at this
    have e2 : ((1 : Int) : Rat) = 1 := rfl
    rw [e2, Rat.one_mul] at this
    exact this
  have vhi : vm (mag a) ≤ pw 1024 := by
    have : vm (mag a) ≤ vm INF := (vm_le_iff hm.1 (by decide)).mpr (by unfold fin at fa; omega)
    have e1 : vm (enc 972 4503599627370496) = ((4503599627370496 : Int) : Rat) * pw 972 := vm_enc (by decide) (by decide) (by decide) (.inr (by decide))
    have e52 : ((4503599627370496 : Int) : Rat) = pw 52 := by rw [pw_p2 (by decide)]; rfl
    rw [show enc 972 4503599627370496 = INF from by decide, e52, ← pw_add] at e1
    rw [e1] at this
    exact this
  have p1 : pw (-1100) ≤ pw (-1074) := pw_mono (by decide)
  have p2 : pw 1024 ≤ pw 1100 := pw_mono (by decide)
  obtain ⟨m1, m2, m3, m4⟩ := R.near (by grind) (by grind)
  have r0 := (R.flags).2.2.1
  have ur : U r := by unfold U; omega
  have mr : mag r = r := by unfold mag; omega
  have nr : neg r = false := by
    show decide (9223372036854775808 ≤ r) = false
    exact decide_eq_false (by omega)
  have vr : val r = vm r := by unfold val; rw [nr, mr]; simp
  have pos : 0 < vm (mag a) := by have := pw_pos (-1074); grind
  have kpos : 0 < (1 - ulq) * (1 - ulq) := by decide +kernel
  refine ⟨r, f, ev, ur, by unfold fin; rw [mr]; exact m1, ?_, nr, ?_, ?_⟩
  · rw [vr]
    have := Rat.mul_pos pos kpos
    refine Decidable.byContradiction fun hc => ?_
    have : vm r = 0 := by grind
    rw [this] at m3
    grind
  · rw [vr, va]; exact m3
  · rw [vr, va]; exact m4
theorem cu : (1 + ulp) * (1 + ulp) * (((1 + ulq) * (1 + ulq)) * ((1 + ulq) * (1 + ulq))) ≤ 1 + 8 * ulp := by decide +kernel
theorem cl : 1 - 8 * ulp ≤ (1 - ulp) * (1 - ulp) * (((1 - ulq) * (1 - ulq)) * ((1 - ulq) * (1 - ulq))) := by decide +kernel
/-- The product of two roots, squared, is near the product. -/
theorem prod_near {B C x y i : Rat} (hB : 0 < B) (hC : 0 < C) (hx : 0 < x) (hy : 0 < y) (x1 : B * ((1 - ulq) * (1 - ulq)) ≤ x * x) (x2 : x * x ≤ B * ((1 + ulq) * (1 + ulq))) (y1 : C * ((1 - ulq) * (1 - ulq)) ≤ y * y)
    (y2 : y * y ≤ C * ((1 + ulq) * (1 + ulq))) (hi : rabs (i - x * y) ≤ ulp * (x * y)) : rabs (i * i - B * C) ≤ B * C * ((8 : Int) : Rat) * pw (-53) := by
  have hxy := Rat.mul_pos hx hy
  have hBC := Rat.mul_pos hB hC
  have u1 : ulp ≤ 1 / 4 := by decide +kernel
  have u0 := ulp_pos
  have a1 : x * y * (1 - ulp) ≤ i := by unfold rabs at hi; split at hi <;> grind
  have a2 : i ≤ x * y * (1 + ulp) := by unfold rabs at hi; split at hi <;> grind
  have k0 : 0 ≤ (1 - ulq) * (1 - ulq) := by decide +kernel
  have k1 : 0 ≤ (1 + ulq) * (1 + ulq) := by decide +kernel
  have s1 : 0 ≤ x * y * (1 - ulp) := Rat.mul_nonneg (Rat.le_of_lt hxy) (by grind)
  have s2 : 0 ≤ i := by grind
  -- the square of what was reckoned
  have b1 : (x * y * (1 - ulp)) * (x * y * (1 - ulp)) ≤ i * i := (prod_le s1 a1 s1 a1).2
  have b2 : i * i ≤ (x * y * (1 + ulp)) * (x * y * (1 + ulp)) := (prod_le s2 a2 s2 a2).2
  have q1 : (B * ((1 - ulq) * (1 - ulq))) * (C * ((1 - ulq) * (1 - ulq))) ≤ (x * x) * (y * y) := (prod_le (Rat.mul_nonneg (Rat.le_of_lt hB) k0) x1 (Rat.mul_nonneg (Rat.le_of_lt hC) k0) y1).2
  have q2 : (x * x) * (y * y) ≤ (B * ((1 + ulq) * (1 + ulq))) * (C * ((1 + ulq) * (1 + ulq))) := (prod_le (Rat.le_of_lt (Rat.mul_pos hx hx)) x2 (Rat.le_of_lt (Rat.mul_pos hy hy)) y2).2
  have d0 : 0 ≤ (1 - ulp) * (1 - ulp) := by decide +kernel
  have d1 : 0 ≤ (1 + ulp) * (1 + ulp) := by decide +kernel
  have lo : B * C * (1 - 8 * ulp) ≤ i * i := by
    have e1 := Rat.mul_le_mul_of_nonneg_left cl (Rat.le_of_lt hBC)
    have e2 := Rat.mul_le_mul_of_nonneg_right q1 d0
    have e3 : (x * y * (1 - ulp)) * (x * y * (1 - ulp)) = (x * x) * (y * y) * ((1 - ulp) * (1 - ulp)) := by grind
    have e4 : (B * ((1 - ulq) * (1 - ulq))) * (C * ((1 - ulq) * (1 - ulq))) * ((1 - ulp) * (1 - ulp)) = B * C * ((1 - ulp) * (1 - ulp) * (((1 - ulq) * (1 - ulq)) * ((1 - ulq) * (1 - ulq)))) := by grind
    rw [e3] at b1
    rw [e4] at e2
    exact Rat.le_trans e1 (Rat.le_trans e2 b1)
  have hi2 : i * i ≤ B * C * (1 + 8 * ulp) := by
    have e1 := Rat.mul_le_mul_of_nonneg_left cu (Rat.le_of_lt hBC)
    have e2 := Rat.mul_le_mul_of_nonneg_right q2 d1
    have e3 : (x * y * (1 + ulp)) * (x * y * (1 + ulp)) = (x * x) * (y * y) * ((1 + ulp) * (1 + ulp)) := by grind
    have e4 : (B * ((1 + ulq) * (1 + ulq))) * (C * ((1 + ulq) * (1 + ulq))) * ((1 + ulp) * (1 + ulp)) = B * C * ((1 + ulp) * (1 + ulp) * (((1 + ulq) * (1 + ulq)) * ((1 + ulq) * (1 + ulq)))) := by grind
    rw [e3] at b2
    rw [e4] at e2
    exact Rat.le_trans b2 (Rat.le_trans e2 e1)
  show _ ≤ B * C * ((8 : Int) : Rat) * ulp
  have e8 : ((8 : Int) : Rat) = 8 := rfl
  rw [e8]
  unfold rabs
  split <;> grind
section
variable {a b c d : Int} (ua : U a) (ub : U b) (uc : U c) (ud : U d) (fa : fin a) (fb : fin b) (fc : fin c) (fd : fin d)
include ua ub uc ud fa fb fc fd
theorem zero_c (h : mag c = 0) : Ev (fun K => gimballaw15_BlockValues.j0 K false a b c d) true := by
  have hk : kindOf (c % 9223372036854775808) = 1 := by rw [kind_mag]; exact kind_zero.mpr h
  have hv : Ev (fun K => block_Values.f K a b c d) (a, 0, d, 0, 0) := by
    unfold block_Values.f
    exact Ev.bind (word_Kind_ev uc) (Ev.pos hk (Ev.now _))
  refine Ev.succ ?_
  simp only [gimballaw15_BlockValues.j0]
  refine Ev.neg (by decide) (Ev.bind hv (Ev.pos rfl ?_))
  dsimp only
  rw [show (d != d) = false from bne_self_eq_false d]
  refine Ev.succ ?_
  simp only [gimballaw15_BlockValues.j1]
  refine Ev.neg (by decide) (Ev.call (wa uc) (Ev.pos h (Ev.pos trivial (Ev.pos trivial (Ev.succ ?_)))))
  simp only [gimballaw15_BlockValues.j3]
  exact Ev.now _
theorem pair (hc : mag c ≠ 0) (hb : mag b ≠ 0) (hd : a = d) : Ev (fun K => gimballaw15_BlockValues.j0 K false a b c d) true := by
  have hk : ¬ kindOf (c % 9223372036854775808) = 1 := by rw [kind_mag]; exact fun h => hc (kind_zero.mp h)
  obtain ⟨x, f1, ex, ux, fx, px, nx, x1, x2⟩ := root_ev fb hb
  obtain ⟨y, f2, ey, uy, fy, py, ny, y1, y2⟩ := root_ev fc hc
  have ui := mv_U ux uy
  have R := mv_Rd ux uy fx fy
  have pxy := Rat.mul_pos px py
  have ni : neg (mv x y) = false := by
    rw [R.sign, if_neg (by grind)]
    exact decide_eq_false (by grind)
  have hv : Ev (fun K => block_Values.f K a b c d) (a, mv x y, d, Go.bits .xor .u64 (mv x y) 9223372036854775808, Go.bits .or .u8 (Go.bits .or .u8 (Go.bits .or .u8 0 f1) f2) (mP x y).2) := by
    unfold block_Values.f
    exact Ev.bind (word_Kind_ev uc) (Ev.neg hk (Ev.call (wa ub) (Ev.bind ex (Ev.call rfl (Ev.call (wa uc) (Ev.bind ey (Ev.call rfl (Ev.bind (cM_ev ux uy) (Ev.call rfl (Ev.now _))))))))))
  refine Ev.succ ?_
  simp only [gimballaw15_BlockValues.j0]
  refine Ev.neg (by decide) (Ev.bind hv (Ev.pos rfl ?_))
  dsimp only
  rw [show (d != d) = false from bne_self_eq_false d]
  generalize hF : Go.bits .or .u8 (Go.bits .or .u8 0 f1) f2 = F
  refine Ev.succ ?_
  simp only [gimballaw15_BlockValues.j1]
  refine Ev.neg (by decide) (Ev.call (wa uc) (Ev.neg hc (Ev.call rfl (Ev.pos rfl (Ev.call (word_Neg_eq ui) ?_)))))
  rw [show decide (9223372036854775808 ≤ mv x y) = false from ni]
  refine Ev.succ ?_
  simp only [gimballaw15_BlockValues.j2]
  refine Ev.neg (by decide) ?_
  by_cases h6 : Go.bits .and .u8 (Go.bits .or .u8 F (mP x y).2) 6 = 0
  · obtain ⟨f3, f5⟩ := and6 h6
    obtain ⟨fi, e1, _⟩ := R.err f3 f5
    have exy : rabs (val x * val y) = val x * val y := by unfold rabs; grind
    rw [exy] at e1
    have hB : 0 < rabs (val b) := by rw [rabs_val]; exact vm_pos (by have := mag_lt (a := b); omega)
    have hC : 0 < rabs (val c) := by rw [rabs_val]; exact vm_pos (by have := mag_lt (a := c); omega)
    have near := prod_near hB hC px py x1 x2 y1 y2 e1
    obtain ⟨i1, i2, i3, ei, ni'⟩ := exact_ev ui fi
    obtain ⟨b1, b2, b3, eb, nb⟩ := exact_ev ub fb
    obtain ⟨c1, c2, c3, ec, nc⟩ := exact_ev uc fc
    obtain ⟨p1, p2, p3, ep, np⟩ := num_mul_ev (by decide) (by decide) (by decide) (by decide) nb nc
    obtain ⟨ab, nab⟩ := abs_ev np
    obtain ⟨q1, q2, q3, eq, nq⟩ := num_mul_ev (by decide) (by decide) (by decide) (by decide) ni' ni'
    obtain ⟨s1, s2, s3, es, ns⟩ := num_sub_ev (by decide) (by decide) nq nab
    obtain ⟨ab2, nab2⟩ := abs_ev ns
    obtain ⟨g1, g2, g3, eg, ng⟩ := int_ev (z := 8) (by decide) (by decide)
    obtain ⟨m1, m2, m3, em, nm⟩ := num_mul_ev (by decide) (by decide) (by decide) (by decide) nab ng
    obtain ⟨t, nt⟩ := two_ev (E := 53) (a := -53) (by decide) (by decide) (by decide) (by decide)
    obtain ⟨k1, k2, k3, ek, nk⟩ := num_mul_ev (by decide) (by decide) (by decide) (by decide) nm nt
    have ecm := num_cmp_ev (by decide) (by decide) (nab2.mono (by decide)) nk
    have es0 := rsgn_le (x := rabs (val (mv x y) * val (mv x y) - rabs (val b * val c)) - rabs (val b * val c) * ((8 : Int) : Rat) * pw (-53)) (by
      rw [rabs_mul]
      grind)
    refine Ev.pos h6 (Ev.bind ei (Ev.bind eb (Ev.bind ec (Ev.bind ep (Ev.call ab (Ev.bind eq (Ev.bind es (Ev.call ab2 (Ev.bind eg (Ev.bind em (Ev.call t (Ev.bind ek (Ev.bind ecm ?_)))))))))))))
    rw [decide_eq_true es0]
    exact Ev.now _
  · exact Ev.neg h6 (Ev.now _)
end
theorem BlockValues (a : Int) (wa0 : (Lit.int .u64 a).wf = true) (b : Int) (wb0 : (Lit.int .u64 b).wf = true) (c : Int) (wc0 : (Lit.int .u64 c).wf = true) (d : Int) (wd0 : (Lit.int .u64 d).wf = true) : ∃ k, gimballaw15_BlockValues.f k a b c d = some true := by
  have ua := U_of_wf wa0
  have ub := U_of_wf wb0
  have uc := U_of_wf wc0
  have ud := U_of_wf wd0
  apply Ev.rounds
  have out : Ev (fun K => gimballaw15_BlockValues.j0 K true a b c d) true := by
    refine Ev.succ ?_
    simp only [gimballaw15_BlockValues.j0]
    exact Ev.pos trivial (Ev.now _)
  -- finite or not
  have rest : (fin a → fin b → fin c → fin d → Ev (fun K => gimballaw15_BlockValues.j0 K false a b c d) true) →
      Ev (fun K => (word_Finite.f a).bind fun q4 => (if q4 = true then ((word_Finite.f b).bind fun q6 => (if q6 = true then ((word_Finite.f c).bind fun q8 => (if q8 = true then ((word_Finite.f d).bind fun q10 => (gimballaw15_BlockValues.j0 K (!q10) a b c d)) else (gimballaw15_BlockValues.j0 K true a b c d))) else (gimballaw15_BlockValues.j0 K true a b c d))) else (gimballaw15_BlockValues.j0 K true a b c d))) true := by
    intro h
    refine Ev.call (word_Finite_eq ua) ?_
    by_cases fa : fin a
    · refine Ev.pos (decide_eq_true fa) (Ev.call (word_Finite_eq ub) ?_)
      by_cases fb : fin b
      · refine Ev.pos (decide_eq_true fb) (Ev.call (word_Finite_eq uc) ?_)
        by_cases fc : fin c
        · refine Ev.pos (decide_eq_true fc) (Ev.call (word_Finite_eq ud) ?_)
          by_cases fd : fin d
          · rw [decide_eq_true fd]; exact h fa fb fc fd
          · rw [decide_eq_false fd]; exact out
        · exact Ev.neg (by simp [fc]) out
      · exact Ev.neg (by simp [fb]) out
    · exact Ev.neg (by simp [fa]) out
  unfold gimballaw15_BlockValues.f
  refine Ev.call rfl ?_
  unfold gimballaw15_plain.f
  rw [wa uc, wa ub, word_Neg_eq ub, word_Neg_eq uc]
  simp only [Option.bind_some]
  by_cases hc : mag c = 0
  · rw [if_pos hc]
    exact Ev.call rfl (Ev.pos rfl (rest fun fa fb fc fd => zero_c ua ub uc ud fa fb fc fd hc))
  · rw [if_neg hc]
    by_cases hd : a = d
    · rw [if_pos hd]
      by_cases hb : mag b = 0
      · rw [if_pos hb]
        exact Ev.call rfl (Ev.neg (by decide) out)
      · rw [if_neg hb]
        refine Ev.call rfl ?_
        by_cases hs : (decide (9223372036854775808 ≤ b) != decide (9223372036854775808 ≤ c)) = true
        · exact Ev.pos hs (rest fun fa fb fc fd => pair ua ub uc ud fa fb fc fd hc hb hd)
        · exact Ev.neg hs out
    · rw [if_neg hd]
      exact Ev.call rfl (Ev.neg (by decide) out)
end Go.Proofs.YtgmikbdmfggnhaaDoor.Pure
