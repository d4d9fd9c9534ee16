/- Layer 5's reference: what a product and sum is. -/
import Derived.Test.YtcappkphcjgeoaaTRefA
import Derived.Test.YtcappkphcjgeoaaTRefP
import Derived.Test.YtcappkphcjgeoaaTFma
import Derived.Test.YtcappkphcjgeoaaFx23
namespace Gim
open Go Go.RowKit Go.Proofs.YtcappkphcjgeoaaW.PrintWords Go.Proofs.YtcappkphcjgeoaaW.PrintLast Go.Proofs.YtcappkphcjgeoaaW.PrintMore Go.Proofs.Ytcappkphcjgeoaa.F
set_option linter.unusedVariables false

theorem ref_Nans3 {a b c : Int} (ha : U a) (hb : U b) (hc : U c) : Ev (fun k => gimbalref04_Nans.f k [a, b, c]) (if (signals a || signals b || signals c) = true then 16 else 0, isNan a || isNan b || isNan c) := by
  unfold gimbalref04_Nans.f
  refine ref_nan_step (by decide) (by simp) (by simp) (by simp) ha ?_
  refine ref_nan_step (by decide) (by simp) (by simp) (by simp) hb ?_
  refine ref_nan_step (by decide) (by simp) (by simp) (by simp) hc ?_
  have e : (if signals (rd [a, b, c] (0 + 1 + 1)) then (16 : Int) else if signals (rd [a, b, c] (0 + 1)) then 16 else if signals (rd [a, b, c] 0) then 16 else 0) = (if (signals a || signals b || signals c) = true then 16 else 0) := by
    show (if signals c then (16 : Int) else if signals b then 16 else if signals a then 16 else 0) = _
    cases signals a <;> cases signals b <;> cases signals c <;> rfl
  have e2 : (false || isNan (rd [a, b, c] 0) || isNan (rd [a, b, c] (0 + 1)) || isNan (rd [a, b, c] (0 + 1 + 1))) = (isNan a || isNan b || isNan c) := by
    show (false || isNan a || isNan b || isNan c) = _
    rw [Bool.false_or]
  rw [e, e2]
  exact ref_nan_end (by simp)

theorem ref_fma_fin {a b c : Int} (ha : U a) (hb : U b) (hc : U c) (fa : fin a) (fb : fin b) (fc : fin c) : ∃ r f, Ev (fun k => gimbalref05_Fma.j1 k a b c (neg a != neg b) false) (r, f) ∧ Rd (val a * val b + val c) ((neg a != neg b) && neg c) r f := by
  have A0 := wh_nonneg a
  have B0 := wh_nonneg b
  have C0 := wh_nonneg c
  have AL := wh_blen fa
  have BL := wh_blen fb
  have CL := wh_blen fc
  have bnd : ∀ {x : Int}, 0 ≤ x → blen x ≤ 2100 → x < p2 2100 := by
    intro x h0 h
    by_cases hx : 0 < x
    · exact Int.lt_of_lt_of_le (blen_pos hx).2.2 (p2_le h)
    · have := p2_pos 2100; omega
  have AR := bnd A0 AL
  have BR := bnd B0 BL
  have CR := bnd C0 CL
  have lC := bl_length C0
  have X0 : 0 ≤ wh a * wh b := Int.mul_nonneg A0 B0
  have Y0 : 0 ≤ wh c * p2 1074 := Int.mul_nonneg C0 (Int.le_of_lt (p2_pos _))
  have XR : wh a * wh b < p2 4200 := by
    have := mul_lt2 AR BR A0 B0
    rw [← p2_add (by decide) (by decide)] at this
    exact this
  have YR : wh c * p2 1074 < p2 4200 := by
    have h1 := Int.mul_lt_mul_of_pos_right CR (p2_pos 1074)
    rw [← p2_add (by decide) (by decide)] at h1
    have h2 := p2_le (show (2100 : Int) + 1074 ≤ 4200 by decide)
    omega
  have k1 := ref_mulN A0 B0 (by omega) (by omega)
  have k2 := ref_up (a := bl (wh c)) (n := 1074) (bl_bits _) (by omega) (by decide)
  rw [bv_bl C0] at k2
  have hv : val a * val b + val c = ((sgd (neg a != neg b) (wh a * wh b) + sgd (neg c) (wh c * p2 1074) : Int) : Rat) * pw (-2148) := by
    rw [wh_val a, wh_val b, wh_val c]
    have e1 : pw (-2148) = pw (-1074) * pw (-1074) := by rw [← pw_add]; rfl
    have e2 : pw (-1074) = (p2 1074 : Rat) * pw (-2148) := by rw [← pw_p2 (by decide), ← pw_add]; rfl
    have e3 : ((sgd (neg c) (wh c) : Int) : Rat) * pw (-1074) = ((sgd (neg c) (wh c * p2 1074) : Int) : Rat) * pw (-2148) := by
      rw [e2]; unfold sgd; cases neg c <;> simp <;> grind
    rw [e3, ← sgd_mul, e1]; push_cast; grind
  have zx : wh a * wh b = 0 ↔ (mag a = 0 ∨ mag b = 0) := by rw [Int.mul_eq_zero, wh_zero, wh_zero]
  have zy : wh c * p2 1074 = 0 ↔ mag c = 0 := by
    rw [Int.mul_eq_zero, wh_zero]
    have := p2_pos 1074
    constructor
    · rintro (h | h); exact h; omega
    · intro h; exact .inl h
  have start : ∀ r : Int × Int, Ev (fun k => gimbalref05_Fma.j2 k c (neg a != neg b) (bl (wh a * wh b)) (bl (wh c * p2 1074)) (decide (wh a * wh b = 0 ∧ wh c * p2 1074 = 0))) r → Ev (fun k => gimbalref05_Fma.j1 k a b c (neg a != neg b) false) r := by
    intro r h
    refine Ev.succ ?_
    simp only [gimbalref05_Fma.j1]
    refine Ev.neg (by decide) (Ev.call (ref_IsInf hc) (Ev.neg (by simpa using not_inf fc) (Ev.bind (ref_Whole ha fa) (Ev.bind (ref_Whole hb fb) (Ev.bind k1 (Ev.bind (ref_Whole hc fc) (Ev.bind k2 ?_)))))))
    have len0 : ∀ {x : Int}, 0 ≤ x → (((bl x).length : Int) = 0 ↔ x = 0) := by
      intro x hx
      rw [bl_length hx]
      constructor
      · intro h
        by_cases hp : 0 < x
        · have := (blen_pos hp).1; omega
        · omega
      · intro h; rw [h, blen_zero]
    by_cases z : wh a * wh b = 0
    · refine Ev.pos ((len0 X0).mpr z) ?_
      have e : (((bl (wh c * p2 1074)).length : Int) == 0) = decide (wh a * wh b = 0 ∧ wh c * p2 1074 = 0) := by
        rw [Bool.eq_iff_iff, beq_iff_eq, len0 Y0, decide_eq_true_eq]
        exact ⟨fun h => ⟨z, h⟩, fun h => h.2⟩
      rw [e]; exact h
    · rw [decide_eq_false (fun h => z h.1)] at h
      exact Ev.neg (fun h => z ((len0 X0).mp h)) h
  generalize hX : wh a * wh b = X at *
  generalize hY : wh c * p2 1074 = Y at *
  have lX := bl_length X0
  have lY := bl_length Y0
  have bX : blen X ≤ 4200 := blen_le (by decide) XR
  have bY : blen Y ≤ 4200 := blen_le (by decide) YR
  have hp := p2_succ (a := 4200) (by decide)
  rw [show (4200 : Int) + 1 = 4201 from by decide] at hp
  by_cases z : X = 0 ∧ Y = 0
  · have u0 : U (signed (neg a != neg b) 0) := U_signed (by decide) (by decide)
    obtain ⟨r, f, ev, R⟩ := ref_add_ev u0 hc
    have f0 : fin (signed (neg a != neg b) 0) := by unfold fin; rw [mag_signed (by decide) (by decide)]; decide
    have R' := (AddR.fin f0 fc).mp R
    rw [neg_signed (by decide) (by decide)] at R'
    have v0 : val (signed (neg a != neg b) 0) = 0 := val_zero_iff.mpr (mag_signed (by decide) (by decide))
    have vz : val a * val b = 0 := by
      rcases zx.mp z.1 with h | h
      · rw [val_zero_iff.mpr h]; grind
      · rw [val_zero_iff.mpr h]; grind
    rw [v0] at R'
    refine ⟨r, f, start _ (Ev.succ ?_), by rw [vz]; exact R'⟩
    simp only [gimbalref05_Fma.j2]
    exact Ev.pos (decide_eq_true z) (Ev.call (ref_Signed _ (by decide) (by decide)) (Ev.bind ev (Ev.now _)))
  · rw [decide_eq_false z] at start
    have k3 := ref_add (a := bl X) (b := bl Y) (bl_bits _) (bl_bits _) (by omega) (by omega)
    rw [bv_bl X0, bv_bl Y0] at k3
    generalize hs : (neg a != neg b) = s at *
    have main : ∀ r : Int × Int, Ev (fun k => if (s != neg c) = true then ((gimbalref02_Cmp.f k (bl X) (bl Y)).bind fun t744 => (if t744 < 0 then ((gimbalref02_Sub.f k (bl Y) (bl X)).bind fun t745 => (if (t745.length : Int) = 0 then (some (0, 0)) else ((gimbalref03_Round.f k (!s) t745 (-2148) false).bind fun bt748 => (some (bt748.1, bt748.2))))) else ((gimbalref02_Sub.f k (bl X) (bl Y)).bind fun t751 => (if (t751.length : Int) = 0 then (some (0, 0)) else ((gimbalref03_Round.f k s t751 (-2148) false).bind fun bt754 => (some (bt754.1, bt754.2))))))) else ((gimbalref03_Round.f k s (bl (X + Y)) (-2148) false).bind fun bt757 => (some (bt757.1, bt757.2)))) r →
        Ev (fun k => gimbalref05_Fma.j1 k a b c s false) r := by
      intro r h
      refine start r (Ev.succ ?_)
      simp only [gimbalref05_Fma.j2]
      exact Ev.neg (by decide) (Ev.bind k3 (Ev.call (ref_Neg hc) h))
    rw [hv]
    by_cases hst : s = neg c
    · obtain ⟨r, f, ev, rd⟩ := ref_roundS s (X := X + Y) (E := -2148) (by omega) (blen_le (by decide) (by have := p2_le (show (4201 : Int) ≤ 40000 by decide); omega)) (by decide) (by decide)
      refine ⟨r, f, main _ (Ev.neg (by simp [hst]) (Ev.bind ev (Ev.now _))), ?_⟩
      have e1 : sgd s X + sgd (neg c) Y = sgd s (X + Y) := by rw [← hst]; unfold sgd; cases s <;> simp <;> omega
      have e2 : (s && neg c) = s := by rw [← hst]; simp
      rw [e1, e2]; exact rd
    · have hs' : (s != neg c) = true := by simpa using hst
      have e2 : (s && neg c) = false := by revert hst; cases s <;> cases neg c <;> simp
      have k4 := ref_cmp (a := bl X) (b := bl Y) (bl_bits _) (bl_bits _) (by omega) (by omega)
      rw [bv_bl X0, bv_bl Y0] at k4
      have dif : ∀ (σ : Bool) (u v : Int), 0 ≤ u → 0 ≤ v → v ≤ u → u < p2 4200 → blen u ≤ 4200 → blen v ≤ 4200 → ∃ r f, Ev (fun k => (gimbalref02_Sub.f k (bl u) (bl v)).bind fun t745 => (if (t745.length : Int) = 0 then (some (0, 0)) else ((gimbalref03_Round.f k σ t745 (-2148) false).bind fun bt748 => (some (bt748.1, bt748.2))))) (r, f) ∧ Rd ((sgd σ (u - v) : Rat) * pw (-2148)) false r f := by
        intro σ u v u0 v0 huv uR uL vL
        have lu := bl_length u0
        have lv := bl_length v0
        have k5 := ref_sub (a := bl u) (b := bl v) (bl_bits _) (bl_bits _) (by omega) (by rw [bv_bl u0, bv_bl v0]; exact huv)
        rw [bv_bl u0, bv_bl v0] at k5
        have huv' : 0 ≤ u - v := by omega
        have luv := bl_length huv'
        by_cases hz : u - v = 0
        · refine ⟨0, 0, Ev.bind k5 (Ev.pos ?_ (Ev.now _)), ⟨fun _ => ⟨rfl, rfl⟩, fun h => absurd (by rw [hz]; cases σ <;> simp [sgd]) h⟩⟩
          rw [luv, hz, blen_zero]
        · obtain ⟨r, f, ev, rd⟩ := ref_roundS σ (X := u - v) (E := -2148) huv' (blen_le (by decide) (by have := p2_le (show (4201 : Int) ≤ 40000 by decide); omega)) (by decide) (by decide)
          refine ⟨r, f, ?_, rd.any (fun h => ?_)⟩
          · have := (blen_pos (x := u - v) (by omega)).1
            exact Ev.bind k5 (Ev.neg (by omega) (Ev.bind ev (Ev.now _)))
          · have := int_pw_zero.mp h
            unfold sgd at this; revert this; cases σ <;> simp <;> omega
      by_cases c1 : X < Y
      · obtain ⟨r, f, ev, rd⟩ := dif (!s) Y X Y0 X0 (by omega) YR bY bX
        refine ⟨r, f, main _ (Ev.pos hs' (Ev.bind k4 (Ev.pos (by unfold sgn; rw [if_pos (by omega)]; decide) ev))), ?_⟩
        have e1 : sgd s X + sgd (neg c) Y = sgd (!s) (Y - X) := by revert hst; unfold sgd; cases s <;> cases neg c <;> simp <;> omega
        rw [e1, e2]; exact rd
      · obtain ⟨r, f, ev, rd⟩ := dif s X Y X0 Y0 (by omega) XR bX bY
        refine ⟨r, f, main _ (Ev.pos hs' (Ev.bind k4 (Ev.neg (by unfold sgn; rw [if_neg (by omega)]; split <;> decide) ev))), ?_⟩
        have e1 : sgd s X + sgd (neg c) Y = sgd s (X - Y) := by revert hst; unfold sgd; cases s <;> cases neg c <;> simp <;> omega
        rw [e1, e2]; exact rd
/-- THE REFERENCE's PRODUCT AND SUM. -/
theorem ref_fma_ev {a b c : Int} (ha : U a) (hb : U b) (hc : U c) : ∃ r f, Ev (fun k => gimbalref05_Fma.f k a b c) (r, f) ∧ FmaR a b c r f := by
  unfold FmaR
  have start : ∀ r : Int × Int, Ev (fun k => gimbalref05_Fma.j0 k a b c (if (signals a || signals b || signals c) = true then 16 else 0) (isNan a || isNan b || isNan c) (infZero a b)) r → Ev (fun k => gimbalref05_Fma.f k a b c) r := by
    intro r hr
    unfold gimbalref05_Fma.f
    unfold infZero at hr
    refine Ev.bind (ref_Nans3 ha hb hc) (Ev.call (ref_IsInf ha) ?_)
    have rest : ¬ (mag a = INF ∧ mag b = 0) → Ev (fun k => (gimbalref04_IsZero.f a).bind fun t613 => (if t613 = true then ((gimbalref04_IsInf.f b).bind fun t614 => (gimbalref05_Fma.j0 k a b c (if (signals a || signals b || signals c) = true then 16 else 0) (isNan a || isNan b || isNan c) t614)) else (gimbalref05_Fma.j0 k a b c (if (signals a || signals b || signals c) = true then 16 else 0) (isNan a || isNan b || isNan c) false))) r := by
      intro hn
      have e1 : (decide (mag a = INF) && decide (mag b = 0)) = false := by
        cases hc : (decide (mag a = INF) && decide (mag b = 0))
        · rfl
        · simp at hc; exact absurd hc hn
      rw [e1, Bool.false_or] at hr
      refine Ev.call (ref_IsZero ha) ?_
      by_cases z : mag a = 0
      · rw [decide_eq_true z, Bool.true_and] at hr
        exact Ev.pos (by simpa using z) (Ev.call (ref_IsInf hb) hr)
      · rw [decide_eq_false z, Bool.false_and] at hr
        exact Ev.neg (by simpa using z) hr
    by_cases i : mag a = INF
    · refine Ev.pos (by simpa using i) (Ev.call (ref_IsZero hb) ?_)
      by_cases z : mag b = 0
      · rw [decide_eq_true i, decide_eq_true z, Bool.and_true, Bool.true_or] at hr
        exact Ev.pos (by simpa using z) hr
      · exact Ev.neg (by simpa using z) (rest (fun hh => z hh.2))
    · exact Ev.neg (by simpa using i) (rest (fun hh => i hh.1))
  by_cases iz : infZero a b = true
  · refine ⟨QNAN, 16, start _ (Ev.succ ?_), by rw [if_pos iz]; exact ⟨rfl, rfl⟩⟩
    simp only [gimbalref05_Fma.j0]
    exact Ev.pos iz (Ev.now _)
  · by_cases hn : (isNan a || isNan b || isNan c) = true
    · refine ⟨QNAN, _, start _ (Ev.succ ?_), by rw [if_neg iz, if_pos hn]; exact ⟨rfl, rfl⟩⟩
      simp only [gimbalref05_Fma.j0]
      exact Ev.neg iz (Ev.pos hn (Ev.now _))
    · have hn' : isNan a = false ∧ isNan b = false ∧ isNan c = false := by
        cases h1 : isNan a <;> cases h2 : isNan b <;> cases h3 : isNan c <;> rw [h1, h2, h3] at hn <;> simp at hn ⊢
      obtain ⟨na, nb, nc⟩ := hn'
      have next : ∀ r : Int × Int, Ev (fun k => gimbalref05_Fma.j1 k a b c (neg a != neg b) (decide (mag a = INF ∨ mag b = INF))) r → Ev (fun k => gimbalref05_Fma.f k a b c) r := by
        intro r hr
        refine start r (Ev.succ ?_)
        simp only [gimbalref05_Fma.j0]
        refine Ev.neg iz (Ev.neg hn (Ev.call (ref_Neg ha) (Ev.call (ref_Neg hb) (Ev.call (ref_IsInf ha) ?_))))
        by_cases i : mag a = INF
        · rw [decide_eq_true (.inl i)] at hr
          exact Ev.pos (by simpa using i) hr
        · have e : decide (mag a = INF ∨ mag b = INF) = decide (mag b = INF) := by simp [i]
          rw [e] at hr
          exact Ev.neg (by simpa using i) (Ev.call (ref_IsInf hb) hr)
      by_cases ii : mag a = INF ∨ mag b = INF
      · have ui : U (signed (neg a != neg b) INF) := U_signed INF_lt.1 INF_lt.2
        obtain ⟨r, f, ev, R⟩ := ref_add_ev ui hc
        refine ⟨r, f, next _ (Ev.succ ?_), by rw [if_neg iz, if_neg hn, if_pos ii]; exact R⟩
        simp only [gimbalref05_Fma.j1]
        exact Ev.pos (decide_eq_true ii) (Ev.call (ref_Signed _ INF_lt.1 INF_lt.2) (Ev.bind ev (Ev.now _)))
      · rw [decide_eq_false ii] at next
        by_cases ic : mag c = INF
        · refine ⟨c, 0, next _ (Ev.succ ?_), by rw [if_neg iz, if_neg hn, if_neg ii, if_pos ic]; exact ⟨rfl, rfl⟩⟩
          simp only [gimbalref05_Fma.j1]
          exact Ev.neg (by decide) (Ev.call (ref_IsInf hc) (Ev.pos (by simpa using ic) (Ev.now _)))
        · obtain ⟨r, f, ev, rd⟩ := ref_fma_fin ha hb hc (fin_of na (fun h => ii (.inl h))) (fin_of nb (fun h => ii (.inr h))) (fin_of nc ic)
          exact ⟨r, f, next _ ev, by rw [if_neg iz, if_neg hn, if_neg ii, if_neg ic]; exact rd⟩
end Gim
