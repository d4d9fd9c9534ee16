/- Layer 4's reference: what a product is. -/
import Derived.Test.YtfbnojelmdcnoaaTRef4
import Derived.Test.YtfbnojelmdcnoaaTMul
import Derived.Test.YtfbnojelmdcnoaaFx17
namespace Gim
open Go Go.RowKit Go.Proofs.YtfbnojelmdcnoaaW.PrintWords Go.Proofs.YtfbnojelmdcnoaaW.PrintLast Go.Proofs.YtfbnojelmdcnoaaW.PrintMore Go.Proofs.Ytfbnojelmdcnoaa.F
set_option linter.unusedVariables false

theorem ref_mul_loop {a b : List Int} (ha : Bits a) (hb : Bits b) (hLa : a.length ≤ 50000) (hLb : b.length ≤ 50000) (d : Nat) : ∀ i : Nat, i + d = a.length →
    Ev (fun k => gimbalref02_Mul.l0 k b (bl (bv (a.take i) * bv b)) a (a.length : Int) i) (bl (bv a * bv b)) := by
  have va := bv_lt ha
  have vb := bv_lt hb
  have va0 := bv_nonneg ha
  have vb0 := bv_nonneg hb
  induction d with
  | zero =>
    intro i hi
    refine Ev.succ ?_
    simp only [gimbalref02_Mul.l0]
    refine Ev.neg (by omega) ?_
    rw [List.take_of_length_le (by omega)]
    exact Ev.now _
  | succ d ih =>
    intro i hi
    have h := ih (i + 1) (by omega)
    have et := bv_take_succ (l := a) (n := i) (by omega)
    have hx := ha.at_ (i := (i : Int))
    have ti := bv_nonneg (ha.take i)
    have tl := bv_lt (ha.take i)
    refine Ev.succ ?_
    simp only [gimbalref02_Mul.l0]
    rw [w64 (x := (i : Int) + 1) (by omega) (by omega)]
    refine Ev.pos (by omega) (Ev.pos (by omega) (Ev.pos (by omega) ?_))
    by_cases c : rd a i = 1
    · have k1 := ref_up (a := b) (n := (i : Int)) hb (by omega) (by omega)
      rw [p2_pow] at k1
      have hT : 0 ≤ bv (a.take i) * bv b := Int.mul_nonneg ti vb0
      have hU : 0 ≤ bv b * 2 ^ i := Int.mul_nonneg vb0 (Int.le_of_lt (Int.pow_pos (by decide)))
      have lT := bl_length hT
      have lU := bl_length hU
      have bT : blen (bv (a.take i) * bv b) ≤ 100000 := by
        refine blen_le (by decide) ?_
        have e1 : bv (a.take i) < p2 50000 := by
          have := p2_le (show ((a.take i).length : Int) ≤ 50000 by rw [List.length_take]; omega)
          rw [p2_pow] at this; omega
        have e2 : bv b < p2 50000 := by
          have := p2_le (show (b.length : Int) ≤ 50000 by omega)
          rw [p2_pow] at this; omega
        have e3 := p2_add (a := 50000) (b := 50000) (by decide) (by decide)
        rw [show (50000 : Int) + 50000 = 100000 from by decide] at e3
        rw [e3]
        exact mul_lt2 e1 e2 ti vb0
      have bU : blen (bv b * 2 ^ i) ≤ 100000 := by
        refine blen_le (by decide) ?_
        have e2 : bv b < p2 50000 := by
          have := p2_le (show (b.length : Int) ≤ 50000 by omega)
          rw [p2_pow] at this; omega
        have e1 := p2_le (show (i : Int) ≤ 50000 by omega)
        rw [p2_pow] at e1
        have e3 := p2_add (a := 50000) (b := 50000) (by decide) (by decide)
        rw [show (50000 : Int) + 50000 = 100000 from by decide] at e3
        rw [e3]
        have e4 : (0 : Int) < 2 ^ i := Int.pow_pos (by decide)
        exact Int.lt_of_lt_of_le (Int.mul_lt_mul_of_pos_right e2 e4) (Int.mul_le_mul_of_nonneg_left e1 (Int.le_of_lt (p2_pos _)))
      have k2 := ref_add (a := bl (bv (a.take i) * bv b)) (b := bl (bv b * 2 ^ i)) (bl_bits _) (bl_bits _) (by omega) (by omega)
      rw [bv_bl hT, bv_bl hU] at k2
      have e : bv (a.take i) * bv b + bv b * 2 ^ i = bv (a.take (i + 1)) * bv b := by rw [et, c]; grind
      rw [e] at k2
      exact Ev.pos c (Ev.bind k1 (Ev.bind k2 h))
    · have c0 : rd a i = 0 := by omega
      have e : bv (a.take (i + 1)) = bv (a.take i) := by rw [et, c0]; omega
      rw [e] at h
      exact Ev.neg c h
theorem ref_mul {a b : List Int} (ha : Bits a) (hb : Bits b) (hLa : a.length ≤ 50000) (hLb : b.length ≤ 50000) : Ev (fun k => gimbalref02_Mul.f k a b) (bl (bv a * bv b)) := by
  unfold gimbalref02_Mul.f
  have := ref_mul_loop ha hb hLa hLb a.length 0 (by omega)
  simp only [List.take_zero, bv_nil, Int.zero_mul, bl_zero] at this
  exact this
/-- Products of whole numbers that aren't negative. -/
theorem ref_mulN {X Y : Int} (hX : 0 ≤ X) (hY : 0 ≤ Y) (bX : blen X ≤ 50000) (bY : blen Y ≤ 50000) : Ev (fun k => gimbalref02_Mul.f k (bl X) (bl Y)) (bl (X * Y)) := by
  have lX := bl_length hX
  have lY := bl_length hY
  have := ref_mul (a := bl X) (b := bl Y) (bl_bits _) (bl_bits _) (by omega) (by omega)
  rw [bv_bl hX, bv_bl hY] at this
  exact this

theorem ref_mul_fin {a b : Int} (ha : U a) (hb : U b) (fa : fin a) (fb : fin b) (s : Bool) (hs : s = (neg a != neg b)) : ∃ r f, Ev (fun k => gimbalref04_Mul.j1 k a b s false) (r, f) ∧ Rd (val a * val b) (neg a != neg b) r f := by
  obtain ⟨ea1, ea2⟩ := fin_expo fa
  obtain ⟨eb1, eb2⟩ := fin_expo fb
  have uM := mant_U a
  have uN := mant_U b
  have lM := mant_blen a
  have lN := mant_blen b
  have hv : val a * val b = ((sgd s (mant (mag a) * mant (mag b)) : Int) : Rat) * pw (expo (mag a) + expo (mag b)) := by
    rw [val_mant a, val_mant b, hs, ← sgd_mul, pw_add]; push_cast; grind
  have bMN : blen (mant (mag a) * mant (mag b)) ≤ 106 := by
    refine blen_le (by decide) ?_
    rw [show p2 106 = 9007199254740992 * 9007199254740992 from by decide]
    exact mul_lt2 mant_lt mant_lt uM.1 uN.1
  obtain ⟨r, f, ev, rd⟩ := ref_roundS s (X := mant (mag a) * mant (mag b)) (E := expo (mag a) + expo (mag b)) (Int.mul_nonneg uM.1 uN.1) (by omega) (by omega) (by omega)
  refine ⟨r, f, Ev.succ ?_, by rw [hv, ← hs]; exact rd⟩
  simp only [gimbalref04_Mul.j1]
  refine Ev.neg (by decide) (Ev.call (ref_Parts ha) (Ev.call (ref_Parts hb) ?_))
  dsimp only
  refine ref_parts_step ha fa (g := fun k x y => gimbalref04_Mul.j2 k s x y (b / 4503599627370496 % 2048) (b % 4503599627370496)) (Ev.succ ?_)
  simp only [gimbalref04_Mul.j2]
  refine ref_parts_step hb fb (g := fun k x y => gimbalref04_Mul.j3 k s (expo (mag a) + 1074) (mant (mag a)) x y) (Ev.succ ?_)
  simp only [gimbalref04_Mul.j3]
  rw [w64 (x := expo (mag a) + 1074 + (expo (mag b) + 1074)) (by omega) (by omega), w64 (by omega) (by omega), show expo (mag a) + 1074 + (expo (mag b) + 1074) - 2148 = expo (mag a) + expo (mag b) from by omega]
  exact Ev.bind (ref_of uM) (Ev.bind (ref_of uN) (Ev.bind (ref_mulN uM.1 uN.1 (by omega) (by omega)) (Ev.bind ev (Ev.now _))))
/-- THE REFERENCE's PRODUCT. -/
theorem ref_mul_ev {a b : Int} (ha : U a) (hb : U b) : ∃ r f, Ev (fun k => gimbalref04_Mul.f k a b) (r, f) ∧ MulR a b r f := by
  unfold MulR
  by_cases h : (isNan a || isNan b) = true
  · refine ⟨_, _, ?_, by rw [if_pos h]; exact ⟨rfl, rfl⟩⟩
    unfold gimbalref04_Mul.f
    exact Ev.bind (ref_Nans2 ha hb) (Ev.pos h (Ev.now _))
  · obtain ⟨h0, na, nb⟩ := nan_or h
    have start : ∀ r : Int × Int, Ev (fun k => gimbalref04_Mul.j0 k a b (neg a != neg b) (infZero a b)) r → Ev (fun k => gimbalref04_Mul.f k a b) r := by
      intro r hr
      unfold gimbalref04_Mul.f
      unfold infZero at hr
      refine Ev.bind (ref_Nans2 ha hb) (Ev.neg h (Ev.call (ref_Neg ha) (Ev.call (ref_Neg hb) (Ev.call (ref_IsInf ha) ?_))))
      have rest : ¬ (mag a = INF ∧ mag b = 0) → Ev (fun k => (gimbalref04_IsZero.f a).bind fun t613 => (if t613 = true then ((gimbalref04_IsInf.f b).bind fun t614 => (gimbalref04_Mul.j0 k a b (neg a != neg b) t614)) else (gimbalref04_Mul.j0 k a b (neg a != neg b) false))) r := by
        intro hn
        have e1 : (decide (mag a = INF) && decide (mag b = 0)) = false := by
          cases hc : (decide (mag a = INF) && decide (mag b = 0))
          · rfl
          · simp at hc; exact absurd hc hn
        rw [e1, Bool.false_or] at hr
        refine Ev.call (ref_IsZero ha) ?_
        by_cases z : mag a = 0
        · rw [decide_eq_true z, Bool.true_and] at hr
          exact Ev.pos (by simpa using z) (Ev.call (ref_IsInf hb) hr)
        · rw [decide_eq_false z, Bool.false_and] at hr
          exact Ev.neg (by simpa using z) hr
      by_cases i : mag a = INF
      · refine Ev.pos (by simpa using i) (Ev.call (ref_IsZero hb) ?_)
        by_cases z : mag b = 0
        · rw [decide_eq_true i, decide_eq_true z, Bool.and_true, Bool.true_or] at hr
          exact Ev.pos (by simpa using z) hr
        · exact Ev.neg (by simpa using z) (rest (fun hh => z hh.2))
      · exact Ev.neg (by simpa using i) (rest (fun hh => i hh.1))
    by_cases iz : infZero a b = true
    · refine ⟨QNAN, 16, start _ (Ev.succ ?_), by rw [if_neg h, if_pos iz]; exact ⟨rfl, rfl⟩⟩
      simp only [gimbalref04_Mul.j0]
      exact Ev.pos iz (Ev.now _)
    · have next : ∀ r : Int × Int, Ev (fun k => gimbalref04_Mul.j1 k a b (neg a != neg b) (if mag a = INF then true else decide (mag b = INF))) r → Ev (fun k => gimbalref04_Mul.f k a b) r := by
        intro r hr
        refine start r (Ev.succ ?_)
        simp only [gimbalref04_Mul.j0]
        refine Ev.neg iz (Ev.call (ref_IsInf ha) ?_)
        by_cases i : mag a = INF
        · rw [if_pos i] at hr
          exact Ev.pos (by simpa using i) hr
        · rw [if_neg i] at hr
          exact Ev.neg (by simpa using i) (Ev.call (ref_IsInf hb) hr)
      by_cases i : mag a = INF ∨ mag b = INF
      · refine ⟨_, 0, next _ (Ev.succ ?_), by rw [if_neg h, if_neg iz, if_pos i]; exact ⟨rfl, rfl⟩⟩
        simp only [gimbalref04_Mul.j1]
        have e : (if mag a = INF then true else decide (mag b = INF)) = true := by
          by_cases c : mag a = INF
          · rw [if_pos c]
          · rw [if_neg c]; exact decide_eq_true (i.resolve_left c)
        exact Ev.pos e (Ev.call (ref_Signed _ INF_lt.1 INF_lt.2) (Ev.now _))
      · have ia : ¬ mag a = INF := fun hh => i (.inl hh)
        have ib : ¬ mag b = INF := fun hh => i (.inr hh)
        obtain ⟨r, f, ev, rd⟩ := ref_mul_fin ha hb (fin_of na ia) (fin_of nb ib) _ rfl
        rw [if_neg ia, decide_eq_false ib] at next
        exact ⟨r, f, next _ ev, by rw [if_neg h, if_neg iz, if_neg i]; exact rd⟩
end Gim
