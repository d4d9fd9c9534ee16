/- What more.Fma answers: the product of two and the sum with a third number, rounded once. -/
import Derived.Test.YtcappkphcjgeoaaTAdd
import Derived.Test.YtcappkphcjgeoaaTMul
import Derived.Test.YtcappkphcjgeoaaTRep
import Derived.Test.YtcappkphcjgeoaaTCmp
import Derived.Test.YtcappkphcjgeoaaFx16
namespace Gim
open Go Go.RowKit Go.Proofs.YtcappkphcjgeoaaW.PrintWords Go.Proofs.YtcappkphcjgeoaaW.PrintLast Go.Proofs.YtcappkphcjgeoaaW.PrintMore Go.Proofs.Ytcappkphcjgeoaa.F
set_option linter.unusedVariables false

def sgr (s : Bool) (x : Rat) : Rat := if s then -x else x
theorem Rd.of_pos (s : Bool) {x : Rat} {m f : Int} (hx : 0 < x) (z : Bool) (h : RB x m f) : Rd (sgr s x) z (signed s m) f := by
  unfold sgr
  cases s
  · refine ⟨fun h0 => ?_, fun _ => ⟨m, ?_, ?_⟩⟩
    · simp at h0; grind
    · simp; unfold rabs; rw [if_neg (by grind)]; exact h
    · simp; rw [decide_eq_false (by grind)]
  · refine ⟨fun h0 => ?_, fun _ => ⟨m, ?_, ?_⟩⟩
    · simp at h0; grind
    · simp only [if_true]; rw [rabs_neg]; unfold rabs; rw [if_neg (by grind)]; exact h
    · simp only [if_true]; rw [decide_eq_true (by grind)]
theorem sgd_sgr (s : Bool) (X E : Int) : (sgd s X : Rat) * pw E = sgr s ((X : Rat) * pw E) := by
  unfold sgd sgr; cases s
  · simp
  · simp only [if_true]; push_cast; grind

/-- A number as high as can be: what the addends are. -/
structure Hi (X : Int) : Prop where
  lo : p2 125 ≤ X
  hi : X < p2 126
  cut : X % p2 20 = 0

theorem fma_j5 {x0 x1 y0 y1 E1 E2 : Int} (hx0 : U x0) (hx1 : U x1) (hy0 : U y0) (hy1 : U y1) (s t : Bool) (HX : Hi (wv x0 x1)) (HY : Hi (wv y0 y1)) (e1 : -5000 ≤ E1) (e1' : E1 ≤ 5000) (e2 : -5000 ≤ E2) (hE : E2 ≤ E1) (hXY : E1 = E2 → wv y0 y1 ≤ wv x0 x1) :
    ∃ r f, Ev (fun k => more_Fma.j5 k E1 s E2 t x0 x1 y0 y1) (r, f) ∧ Rd (sgr s ((wv x0 x1 : Rat) * pw E1) + sgr t ((wv y0 y1 : Rat) * pw E2)) (s && t) r f := by
  obtain ⟨xl, xh, xc⟩ := HX
  obtain ⟨yl, yh, yc⟩ := HY
  have h125 : p2 125 = 42535295865117307932921825928971026432 := by decide
  have h126 : p2 126 = 85070591730234615865843651857942052864 := by decide
  obtain ⟨q0, q1, er, uq0, uq1, eq⟩ := wide_Right_ev (n := E1 - E2) hy0 hy1 (by omega)
  have hP := p2_pos (E1 - E2)
  have hu := pw_pos E2
  have ePw : pw E1 = (p2 (E1 - E2) : Rat) * pw E2 := by rw [← pw_p2 (by omega), ← pw_add]; congr 1; omega
  have md := Int.mul_ediv_add_emod (wv y0 y1) (p2 (E1 - E2))
  have r0 := Int.emod_nonneg (wv y0 y1) (show p2 (E1 - E2) ≠ 0 by omega)
  have r1 := Int.emod_lt_of_pos (wv y0 y1) hP
  have qle : wv y0 y1 / p2 (E1 - E2) ≤ wv y0 y1 := Int.ediv_le_self _ (by omega)
  have qge : 0 ≤ wv y0 y1 / p2 (E1 - E2) := Int.ediv_nonneg (by omega) (by omega)
  -- where something falls out, the second is far beneath the first
  have far : wv y0 y1 % p2 (E1 - E2) ≠ 0 → wv y0 y1 / p2 (E1 - E2) < p2 105 := by
    intro h
    have hd : 21 ≤ E1 - E2 := by
      refine Decidable.byContradiction fun hc => h ?_
      have e : p2 20 = p2 (E1 - E2) * p2 (20 - (E1 - E2)) := by rw [← p2_add (by omega) (by omega)]; congr 1; omega
      have := Int.emod_emod_of_dvd (wv y0 y1) (⟨_, e⟩ : p2 (E1 - E2) ∣ p2 20)
      rw [yc] at this; rw [← this]; simp
    refine Int.ediv_lt_of_lt_mul hP ?_
    have h1 := p2_le hd
    have e : p2 126 = p2 105 * p2 21 := by decide
    have h2 : p2 105 * p2 21 ≤ p2 105 * p2 (E1 - E2) := Int.mul_le_mul_of_nonneg_left h1 (by decide)
    omega
  have h105 : p2 105 = 40564819207303340847894502572032 := by decide
  generalize hX : wv x0 x1 = X at *
  generalize hY : wv y0 y1 = Y at *
  generalize hPP : p2 (E1 - E2) = P at *
  generalize hQ : Y / P = Q at *
  generalize hR : Y % P = R at *
  have eY : (Y : Rat) * pw E2 = (Q : Rat) * pw E1 + (R : Rat) * pw E2 := by rw [← md, ePw]; push_cast; grind
  have eR1 : (R : Rat) * pw E2 < pw E1 := by
    have := (mul_pw_lt (a := R) (b := P) (e := E2)).mpr r1
    rw [ePw]; exact this
  have eR0 : R ≠ 0 → 0 < (R : Rat) * pw E2 := by
    intro h
    have := (mul_pw_lt (a := 0) (b := R) (e := E2)).mpr (by omega)
    simpa using this
  have eRz : R = 0 → (R : Rat) * pw E2 = 0 := by intro h; rw [h]; simp
  have start : ∀ rf : Int × Int, Ev (fun k => if (s == t) = true then ((wide_Wide_Add.f x0 x1 q0 q1).bind fun bt322 => ((round_Round.f k s bt322.1 bt322.2.1 E1 (decide (R ≠ 0))).bind fun bt326 => (some (bt326.1, bt326.2)))) else (if decide (R ≠ 0) = true then ((wide_Wide_Add.f q0 q1 0 1).bind fun bt328 => (more_Fma.j6 k E1 s (decide (R ≠ 0)) x0 x1 bt328.1 bt328.2.1)) else (more_Fma.j6 k E1 s (decide (R ≠ 0)) x0 x1 q0 q1))) rf → Ev (fun k => more_Fma.j5 k E1 s E2 t x0 x1 y0 y1) rf := by
    intro rf h
    refine Ev.succ ?_
    simp only [more_Fma.j5]
    rw [w64 (x := E1 - E2) (by omega) (by omega)]
    exact Ev.bind er h
  by_cases hst : s = t
  · -- the sum
    subst hst
    obtain ⟨a, b, ea, ua, ub, eab⟩ := wide_Add_eq hx0 hx1 uq0 uq1
    rw [hX, eq] at ea eab
    have hs : wv a b = X + Q := by rw [eab]; exact Int.emod_eq_of_lt (by omega) (by omega)
    have hpos : 0 < X + Q := by omega
    have b54 : 54 ≤ blen (X + Q) := by
      have h1 := blen_mono (show p2 125 ≤ X + Q by omega)
      have h2 : blen (p2 125) = 126 := blen_unique (by decide) (by decide) (by decide)
      omega
    have eV : (X : Rat) * pw E1 + (Y : Rat) * pw E2 = ((X + Q : Int) : Rat) * pw E1 + (R : Rat) * pw E2 := by rw [eY]; push_cast; grind
    have e1s : ((X + Q + 1 : Int) : Rat) * pw E1 = ((X + Q : Int) : Rat) * pw E1 + pw E1 := by push_cast; grind
    obtain ⟨m, f, ev, rb⟩ := round_Round_ev s (h := a) (l := b) (E := E1) ua ub (by omega) (by omega) (decide (R ≠ 0)) (x := (X : Rat) * pw E1 + (Y : Rat) * pw E2) (by rw [hs]; exact hpos)
      (fun h => by rw [hs, eV, eRz (by simpa using h)]; grind)
      (fun h => by
        rw [hs, eV, e1s]
        have := eR0 (by simpa using h)
        exact ⟨⟨by grind, by grind⟩, b54⟩)
    have hp : 0 < (X : Rat) * pw E1 + (Y : Rat) * pw E2 := by
      have h1 := (mul_pw_lt (a := 0) (b := X) (e := E1)).mpr (by omega)
      have h2 := (mul_pw_lt (a := 0) (b := Y) (e := E2)).mpr (by omega)
      have e0 : ∀ e, ((0 : Int) : Rat) * pw e = 0 := fun e => by simp
      rw [e0] at h1 h2
      grind
    refine ⟨_, f, start _ (Ev.pos (by simp) (Ev.call ea (Ev.bind ev (Ev.now _)))), ?_⟩
    have e : sgr s ((X : Rat) * pw E1) + sgr s ((Y : Rat) * pw E2) = sgr s ((X : Rat) * pw E1 + (Y : Rat) * pw E2) := by unfold sgr; cases s <;> simp <;> grind
    rw [e]
    exact Rd.of_pos s hp _ rb
  · have hz : (s && t) = false := by revert hst; cases s <;> cases t <;> simp
    have hst' : (s == t) = false := by simpa using hst
    have e : sgr s ((X : Rat) * pw E1) + sgr t ((Y : Rat) * pw E2) = sgr s ((X : Rat) * pw E1 - (Y : Rat) * pw E2) := by revert hst; unfold sgr; cases s <;> cases t <;> simp <;> grind
    rw [hz, e]
    have eV : (X : Rat) * pw E1 - (Y : Rat) * pw E2 = ((X - Q : Int) : Rat) * pw E1 - (R : Rat) * pw E2 := by rw [eY]; push_cast; grind
    by_cases hR0 : R = 0
    · -- nothing falls out
      have hQX : Q ≤ X := by
        by_cases hd : E1 = E2
        · have := hXY hd; omega
        · have h2 : p2 1 ≤ P := by rw [← hPP]; exact p2_le (by omega)
          rw [p2_1] at h2
          have h3 : Q * 2 ≤ Q * P := Int.mul_le_mul_of_nonneg_left h2 qge
          have h4 : Q * P = Y := by rw [Int.mul_comm]; omega
          omega
      obtain ⟨a, b, ea, ua, ub, eab⟩ := wide_Sub_eq hx0 hx1 uq0 uq1 (by rw [hX, eq]; exact hQX)
      rw [hX, eq] at eab
      have j6 : ∀ rf : Int × Int, Ev (fun k => more_Fma.j7 k E1 s false (decide (X - Q = 0)) a b) rf → Ev (fun k => more_Fma.j5 k E1 s E2 t x0 x1 y0 y1) rf := by
        intro rf h
        refine start rf (Ev.neg (by rw [hst']; decide) (Ev.neg (by simp [hR0]) (Ev.succ ?_)))
        simp only [more_Fma.j6]
        refine Ev.call ea ?_
        dsimp only
        refine Ev.call (wide_Zero_eq ua ub) ?_
        rw [eab, show decide (R ≠ 0) = false from by simp [hR0]]
        by_cases c : X - Q = 0
        · rw [decide_eq_true c] at h ⊢
          exact Ev.pos rfl h
        · rw [decide_eq_false c] at h ⊢
          exact Ev.neg (by decide) h
      by_cases c : X - Q = 0
      · refine ⟨0, 0, j6 _ (Ev.succ ?_), ⟨fun _ => ⟨rfl, rfl⟩, fun h => absurd ?_ h⟩⟩
        · simp only [more_Fma.j7]
          exact Ev.pos (decide_eq_true c) (Ev.now _)
        · rw [eV, c, eRz hR0, show ((0 : Int) : Rat) * pw E1 - 0 = 0 from by rw [show ((0 : Int) : Rat) = 0 from rfl]; grind]
          unfold sgr; cases s <;> rfl
      · have hpos : 0 < X - Q := by omega
        obtain ⟨m, f, ev, rb⟩ := round_Round_ev s (h := a) (l := b) (E := E1) ua ub (by omega) (by omega) false (x := (X : Rat) * pw E1 - (Y : Rat) * pw E2) (by rw [eab]; exact hpos)
          (fun h => by rw [eab, eV, eRz hR0]; grind) (fun h => by cases h)
        refine ⟨_, f, j6 _ (Ev.succ ?_), Rd.of_pos s ?_ _ rb⟩
        · simp only [more_Fma.j7]
          exact Ev.neg (by simpa using c) (Ev.bind ev (Ev.now _))
        · rw [eV, eRz hR0]
          have h1 := (mul_pw_lt (a := 0) (b := X - Q) (e := E1)).mpr hpos
          have e0 : ((0 : Int) : Rat) * pw E1 = 0 := by simp
          rw [e0] at h1; grind
    · -- something falls out: one more is taken away, and the rest given back
      have hQ := far hR0
      obtain ⟨c0, c1, ec, uc0, uc1, ecc⟩ := wide_Add_eq uq0 uq1 U_0 U_1
      have e01 : wv 0 1 = 1 := by decide
      rw [eq, e01] at ec ecc
      have hc1 : wv c0 c1 = Q + 1 := by rw [ecc]; exact Int.emod_eq_of_lt (by omega) (by omega)
      obtain ⟨a, b, ea, ua, ub, eab⟩ := wide_Sub_eq hx0 hx1 uc0 uc1 (by rw [hX, hc1]; omega)
      rw [hX, hc1] at eab
      have hpos : 0 < X - (Q + 1) := by omega
      have b54 : 54 ≤ blen (X - (Q + 1)) := by
        have h1 := blen_mono (show p2 124 ≤ X - (Q + 1) by rw [show p2 124 = 21267647932558653966460912964485513216 from by decide]; omega)
        have h2 : blen (p2 124) = 125 := blen_unique (by decide) (by decide) (by decide)
        omega
      have e1s : ((X - (Q + 1) + 1 : Int) : Rat) * pw E1 = ((X - Q : Int) : Rat) * pw E1 := by congr 2; omega
      have e1t : ((X - (Q + 1) : Int) : Rat) * pw E1 = ((X - Q : Int) : Rat) * pw E1 - pw E1 := by push_cast; grind
      have hr := eR0 hR0
      obtain ⟨m, f, ev, rb⟩ := round_Round_ev s (h := a) (l := b) (E := E1) ua ub (by omega) (by omega) true (x := (X : Rat) * pw E1 - (Y : Rat) * pw E2) (by rw [eab]; exact hpos)
        (fun h => by cases h) (fun _ => by rw [eab, e1s, e1t, eV]; exact ⟨⟨by grind, by grind⟩, b54⟩)
      refine ⟨_, f, start _ (Ev.neg (by rw [hst']; decide) (Ev.pos (by simp [hR0]) (Ev.call ec (Ev.succ ?_)))), Rd.of_pos s ?_ _ rb⟩
      · simp only [more_Fma.j6]
        refine Ev.call ea ?_
        dsimp only
        refine Ev.call (wide_Zero_eq ua ub) ?_
        rw [eab, show decide (R ≠ 0) = true from by simp [hR0]]
        refine Ev.neg (by simp; omega) (Ev.succ ?_)
        simp only [more_Fma.j7]
        exact Ev.neg (by decide) (Ev.bind ev (Ev.now _))
      · have h1 := (mul_pw_lt (a := 0) (b := X - (Q + 1)) (e := E1)).mpr hpos
        have e0 : ((0 : Int) : Rat) * pw E1 = 0 := by simp
        rw [e0, e1t] at h1
        rw [eV]; grind
/-- Both addends, in either order. -/
theorem fma_j4 {x0 x1 y0 y1 E1 E2 : Int} (hx0 : U x0) (hx1 : U x1) (hy0 : U y0) (hy1 : U y1) (s t : Bool) (HX : Hi (wv x0 x1)) (HY : Hi (wv y0 y1)) (e1 : -5000 ≤ E1) (e1' : E1 ≤ 5000) (e2 : -5000 ≤ E2) (e2' : E2 ≤ 5000) (sw : Bool)
    (hs : sw = true ↔ (E1 < E2 ∨ (E1 = E2 ∧ wv x0 x1 < wv y0 y1))) :
    ∃ r f, Ev (fun k => more_Fma.j4 k E1 s E2 t sw x0 x1 y0 y1) (r, f) ∧ Rd (sgr s ((wv x0 x1 : Rat) * pw E1) + sgr t ((wv y0 y1 : Rat) * pw E2)) (s && t) r f := by
  cases sw
  · have h : ¬ (E1 < E2 ∨ (E1 = E2 ∧ wv x0 x1 < wv y0 y1)) := fun h => by have := hs.mpr h; cases this
    obtain ⟨r, f, ev, rd⟩ := fma_j5 hx0 hx1 hy0 hy1 s t HX HY e1 e1' e2 (by omega) (by omega)
    refine ⟨r, f, Ev.succ ?_, rd⟩
    simp only [more_Fma.j4]
    exact Ev.neg (by decide) ev
  · have h := hs.mp rfl
    obtain ⟨r, f, ev, rd⟩ := fma_j5 hy0 hy1 hx0 hx1 t s HY HX e2 e2' e1 (by omega) (by omega)
    refine ⟨r, f, Ev.succ ?_, ?_⟩
    · simp only [more_Fma.j4]
      exact Ev.pos trivial ev
    · rw [Bool.and_comm, show ∀ u v : Rat, u + v = v + u from fun u v => by grind]; exact rd

/-- A number put as high as can be. -/
theorem hi_of {x0 x1 : Int} (h0 : U x0) (h1 : U x1) (hp : 0 < wv x0 x1) (hl : blen (wv x0 x1) ≤ 106) : ∃ a b, wide_Wide_Left.f x0 x1 (126 - blen (wv x0 x1)) = some (a, b) ∧ U a ∧ U b ∧ Hi (wv a b) ∧ ∀ E, (wv a b : Rat) * pw (E - 126 + blen (wv x0 x1)) = (wv x0 x1 : Rat) * pw E := by
  obtain ⟨b1, b2, b3⟩ := blen_pos hp
  have hsmall : wv x0 x1 * p2 (126 - blen (wv x0 x1)) < p2 126 := by
    have h2 : wv x0 x1 * p2 (126 - blen (wv x0 x1)) < p2 (blen (wv x0 x1)) * p2 (126 - blen (wv x0 x1)) := Int.mul_lt_mul_of_pos_right b3 (p2_pos _)
    rw [← p2_add (by omega) (by omega), show blen (wv x0 x1) + (126 - blen (wv x0 x1)) = 126 from by omega] at h2
    exact h2
  have hbig : p2 125 ≤ wv x0 x1 * p2 (126 - blen (wv x0 x1)) := by
    have h2 : p2 (blen (wv x0 x1) - 1) * p2 (126 - blen (wv x0 x1)) ≤ wv x0 x1 * p2 (126 - blen (wv x0 x1)) := Int.mul_le_mul_of_nonneg_right b2 (Int.le_of_lt (p2_pos _))
    rw [← p2_add (by omega) (by omega), show blen (wv x0 x1) - 1 + (126 - blen (wv x0 x1)) = 125 from by omega] at h2
    exact h2
  have h128 : p2 126 < 340282366920938463463374607431768211456 := by decide
  obtain ⟨a, b, e, ua, ub, ev⟩ := wide_Left_small (n := 126 - blen (wv x0 x1)) h0 h1 (by omega) (by omega)
  refine ⟨a, b, e, ua, ub, ⟨by rw [ev]; exact hbig, by rw [ev]; exact hsmall, ?_⟩, fun E => ?_⟩
  · rw [ev]
    have e20 : p2 (126 - blen (wv x0 x1)) = p2 (106 - blen (wv x0 x1)) * p2 20 := by rw [← p2_add (by omega) (by decide)]; congr 1; omega
    rw [e20, ← Int.mul_assoc]
    exact Int.mul_emod_left _ _
  · rw [ev]
    have : pw E = (p2 (126 - blen (wv x0 x1)) : Rat) * pw (E - 126 + blen (wv x0 x1)) := by rw [← pw_p2 (by omega), ← pw_add]; congr 1; omega
    rw [this]; push_cast; grind

def FmaR (a b c r f : Int) : Prop :=
  if infZero a b = true then r = QNAN ∧ f = 16
  else if (isNan a || isNan b || isNan c) = true then r = QNAN ∧ f = (if (signals a || signals b || signals c) = true then 16 else 0)
  else if mag a = INF ∨ mag b = INF then AddR (signed (neg a != neg b) INF) c r f
  else if mag c = INF then r = c ∧ f = 0
  else Rd (val a * val b + val c) ((neg a != neg b) && neg c) r f
theorem FmaR.unique {a b c r f r' f' : Int} (h : FmaR a b c r f) (h' : FmaR a b c r' f') : r = r' ∧ f = f' := by
  unfold FmaR at h h'
  by_cases c1 : infZero a b = true
  · rw [if_pos c1] at h h'; omega
  · rw [if_neg c1] at h h'
    by_cases c2 : (isNan a || isNan b || isNan c) = true
    · rw [if_pos c2] at h h'; omega
    · rw [if_neg c2] at h h'
      by_cases c3 : mag a = INF ∨ mag b = INF
      · rw [if_pos c3] at h h'; exact h.unique h'
      · rw [if_neg c3] at h h'
        by_cases c4 : mag c = INF
        · rw [if_pos c4] at h h'; omega
        · rw [if_neg c4] at h h'; exact h.unique h'
theorem FmaR.flags {a b c r f : Int} (h : FmaR a b c r f) : 0 ≤ f ∧ f ≤ 16 := by
  unfold FmaR at h
  split at h
  · omega
  · split at h
    · split at h <;> omega
    · split at h
      · exact h.flags
      · split at h
        · omega
        · exact h.flags
theorem FmaR.fin {a b c r f : Int} (fa : fin a) (fb : fin b) (fc : fin c) : FmaR a b c r f ↔ Rd (val a * val b + val c) ((neg a != neg b) && neg c) r f := by
  have iz : infZero a b = false := by unfold infZero; simp [not_inf fa, not_inf fb]
  unfold FmaR
  rw [iz, fin_nan fa, fin_nan fb, fin_nan fc, if_neg (by decide), if_neg (by decide), if_neg (by rintro (h | h); exact not_inf fa h; exact not_inf fb h), if_neg (not_inf fc)]
theorem val_sgr {a M E : Int} (h : vm (mag a) = (M : Rat) * pw E) : val a = sgr (neg a) ((M : Rat) * pw E) := by
  rw [val_eq, h]; unfold sgr; cases neg a <;> simp <;> grind
theorem sgr_mul (s t : Bool) (x y : Rat) : sgr s x * sgr t y = sgr (s != t) (x * y) := by unfold sgr; cases s <;> cases t <;> simp <;> grind

theorem fma_fin {a b c : Int} (ha : U a) (hb : U b) (hc : U c) (fa : fin a) (fb : fin b) (fc : fin c) (p g : Int) : ∃ r f, Ev (fun k => more_Fma.j0 k a b c p g false) (r, f) ∧ Rd (val a * val b + val c) ((neg a != neg b) && neg c) r f := by
  obtain ⟨M, E, pa, m0, m1, e0, e1, va, za⟩ := Parts_fin ha fa
  obtain ⟨N, G, pb, n0, n1, g0, g1, vb, zb⟩ := Parts_fin hb fb
  have hN : ∀ {a : Int}, U a → word_Neg.f a = some (neg a) := fun h => word_Neg_eq h
  have hab : val a * val b = sgr (neg a != neg b) (((M * N : Int) : Rat) * pw (E + G)) := by
    rw [val_sgr va, val_sgr vb, sgr_mul]; congr 1; rw [pw_add]; push_cast; grind
  have start : ∀ rf : Int × Int, Ev (fun k => more_Fma.j3 k c M E N G (neg a != neg b) (decide (M = 0 ∨ N = 0))) rf → Ev (fun k => more_Fma.j0 k a b c p g false) rf := by
    intro rf h
    refine Ev.succ ?_
    simp only [more_Fma.j0]
    refine Ev.neg (by decide) (Ev.bind pa (Ev.bind pb (Ev.call (hN ha) (Ev.call (hN hb) ?_))))
    dsimp only
    by_cases z : M = 0
    · rw [decide_eq_true (.inl z)] at h
      exact Ev.pos z h
    · have e : decide (M = 0 ∨ N = 0) = (N == 0) := by rw [Bool.eq_iff_iff]; simp [z]
      rw [e] at h
      exact Ev.neg z h
  by_cases z : M = 0 ∨ N = 0
  · have u0 : U (signed (neg a != neg b) 0) := U_signed (by decide) (by decide)
    obtain ⟨r, f, ev, R⟩ := add_ev u0 hc
    have f0 : fin (signed (neg a != neg b) 0) := by unfold fin; rw [mag_signed (by decide) (by decide)]; decide
    have R' := (AddR.fin f0 fc).mp R
    rw [neg_signed (by decide) (by decide)] at R'
    have v0 : val (signed (neg a != neg b) 0) = 0 := val_zero_iff.mpr (mag_signed (by decide) (by decide))
    have vz : val a * val b = 0 := by
      rcases z with h | h
      · rw [val_zero_iff.mpr (za.mp h)]; grind
      · rw [val_zero_iff.mpr (zb.mp h)]; grind
    rw [v0] at R'
    refine ⟨r, f, start _ (Ev.succ ?_), by rw [vz]; exact R'⟩
    simp only [more_Fma.j3]
    exact Ev.pos (decide_eq_true z) (Ev.call (make_zero _) (Ev.bind ev (Ev.now _)))
  · have hMN : 0 < M * N := Int.mul_pos (by omega) (by omega)
    obtain ⟨h, l, ew, u1, u2, ev⟩ := wide_Mul_eq (a := M) (b := N) ⟨m0, by omega⟩ ⟨n0, by omega⟩
    obtain ⟨K, H, pc, k0, k1, h0, h1, vc, zc⟩ := Parts_fin hc fc
    have bMN : blen (wv h l) ≤ 106 := by
      rw [ev]
      refine blen_le (by decide) ?_
      rw [show p2 106 = 9007199254740992 * 9007199254740992 from by decide]
      exact mul_lt2 m1 n1 m0 n0
    by_cases zk : K = 0
    · obtain ⟨m, f, er, rb⟩ := round_Round_ev (neg a != neg b) u1 u2 (E := E + G) (by omega) (by omega) false (x := ((M * N : Int) : Rat) * pw (E + G)) (by rw [ev]; exact hMN) (fun _ => by rw [ev]) (fun h => by cases h)
      refine ⟨signed (neg a != neg b) m, f, start _ (Ev.succ ?_), ?_⟩
      · simp only [more_Fma.j3]
        refine Ev.neg (by simpa using z) (Ev.call ew (Ev.bind pc (Ev.pos zk ?_)))
        dsimp only
        rw [w64 (x := E + G) (by omega) (by omega)]
        exact Ev.bind er (Ev.now _)
      · rw [val_zero_iff.mpr (zc.mp zk), hab, show ∀ u : Rat, u + 0 = u from fun u => by grind]
        refine Rd.of_pos _ ?_ _ rb
        have h1 := (mul_pw_lt (a := 0) (b := M * N) (e := E + G)).mpr hMN
        simpa using h1
    · have kp : 0 < K := by omega
      have uK : U K := ⟨k0, by omega⟩
      have eK : wv 0 K = K := by unfold wv; omega
      obtain ⟨x0, x1, el, ux0, ux1, HX, vx⟩ := hi_of u1 u2 (by rw [ev]; exact hMN) bMN
      have bK : blen K ≤ 53 := blen_le (by decide) (by rw [show p2 53 = 9007199254740992 from by decide]; exact k1)
      obtain ⟨y0, y1, ek, uy0, uy1, HY, vy⟩ := hi_of U_0 uK (by rw [eK]; exact kp) (by rw [eK]; omega)
      rw [eK] at ek vy
      have lx := wide_Len_ev u1 u2
      have lk := bits_Len64_ev uK
      have bx0 := blen_pos (x := wv h l) (by rw [ev]; exact hMN)
      have bk0 := blen_pos kp
      have vxx := vx (E + G)
      have vyy := vy H
      generalize hbx : blen (wv h l) = bx at *
      generalize hbk : blen K = bk at *
      rw [ev] at vxx
      have e1' : wrap64 (wrap64 (wrap64 (E + G) - 126) + bx) = E + G - 126 + bx := by
        rw [w64 (x := E + G) (by omega) (by omega), w64 (x := E + G - 126) (by omega) (by omega), w64 (by omega) (by omega)]
      have e2' : wrap64 (wrap64 (H - 126) + bk) = H - 126 + bk := by
        rw [w64 (x := H - 126) (by omega) (by omega), w64 (by omega) (by omega)]
      have j4 : ∀ sw : Bool, (sw = true ↔ (E + G - 126 + bx < H - 126 + bk ∨ (E + G - 126 + bx = H - 126 + bk ∧ wv x0 x1 < wv y0 y1))) →
          ∃ r f, Ev (fun k => more_Fma.j4 k (E + G - 126 + bx) (neg a != neg b) (H - 126 + bk) (neg c) sw x0 x1 y0 y1) (r, f) ∧ Rd (val a * val b + val c) ((neg a != neg b) && neg c) r f := by
        intro sw hsw
        obtain ⟨r, f, er, rd⟩ := fma_j4 ux0 ux1 uy0 uy1 (neg a != neg b) (neg c) HX HY (E1 := E + G - 126 + bx) (E2 := H - 126 + bk) (by omega) (by omega) (by omega) (by omega) sw hsw
        refine ⟨r, f, er, ?_⟩
        rw [vxx, vyy, ← hab, ← val_sgr vc] at rd
        exact rd
      have j3 : ∀ rf : Int × Int, Ev (fun k => if (E + G - 126 + bx) < (H - 126 + bk) then (more_Fma.j4 k (E + G - 126 + bx) (neg a != neg b) (H - 126 + bk) (neg c) true x0 x1 y0 y1) else (if (E + G - 126 + bx) = (H - 126 + bk) then ((wide_Wide_Cmp.f k x0 x1 y0 y1).bind fun t318 => (more_Fma.j4 k (E + G - 126 + bx) (neg a != neg b) (H - 126 + bk) (neg c) (decide (t318 < 0)) x0 x1 y0 y1)) else (more_Fma.j4 k (E + G - 126 + bx) (neg a != neg b) (H - 126 + bk) (neg c) false x0 x1 y0 y1))) rf →
          Ev (fun k => more_Fma.j0 k a b c p g false) rf := by
        intro rf hr
        refine start rf (Ev.succ ?_)
        simp only [more_Fma.j3]
        refine Ev.neg (by simpa using z) (Ev.call ew (Ev.bind pc (Ev.neg zk (Ev.bind lx ?_))))
        dsimp only
        rw [w64 (x := 126 - bx) (by omega) (by omega)]
        refine Ev.call el (Ev.bind lx (Ev.bind lk ?_))
        rw [w64 (x := 126 - bk) (by omega) (by omega)]
        refine Ev.call ek (Ev.bind lk (Ev.call (hN hc) ?_))
        dsimp only
        rw [e1', e2']
        exact hr
      by_cases c1 : E + G - 126 + bx < H - 126 + bk
      · obtain ⟨r, f, er, rd⟩ := j4 true (by simp; exact .inl c1)
        exact ⟨r, f, j3 _ (Ev.pos c1 er), rd⟩
      · by_cases c2 : E + G - 126 + bx = H - 126 + bk
        · have kc := wide_Cmp_ev ux0 ux1 uy0 uy1
          obtain ⟨r, f, er, rd⟩ := j4 (decide (sgn (wv x0 x1 - wv y0 y1) < 0)) (by
            have : sgn (wv x0 x1 - wv y0 y1) < 0 ↔ wv x0 x1 < wv y0 y1 := by
              unfold sgn; constructor <;> intro h <;> revert h <;> split <;> (try split) <;> omega
            simp only [decide_eq_true_eq, this]
            constructor
            · intro h; exact .inr ⟨c2, h⟩
            · rintro (h | h); exact absurd h c1; exact h.2)
          exact ⟨r, f, j3 _ (Ev.neg c1 (Ev.pos c2 (Ev.bind kc er))), rd⟩
        · obtain ⟨r, f, er, rd⟩ := j4 false (by
            constructor
            · intro h; cases h
            · rintro (h | h); exact absurd h c1; exact absurd h.1 c2)
          exact ⟨r, f, j3 _ (Ev.neg c1 (Ev.neg c2 er)), rd⟩

theorem u8_or0 {g : Int} (h0 : 0 ≤ g) (h1 : g ≤ 16) : Go.bits .or .u8 (Go.bits .and .u8 0 16) g = g := by
  have key : ∀ i : Fin 17, Go.bits .or .u8 (Go.bits .and .u8 0 16) (i.val : Int) = i.val := by decide
  have := key ⟨g.toNat, by omega⟩
  have e : ((⟨g.toNat, by omega⟩ : Fin 17).val : Int) = g := by show (g.toNat : Int) = g; omega
  rw [e] at this; exact this
theorem signals_QNAN : signals QNAN = false := by decide
theorem isNan_QNAN : isNan QNAN = true := by decide
theorem signals_signed (s : Bool) : signals (signed s INF) = false ∧ signals (signed s 0) = false ∧ isNan (signed s INF) = false ∧ isNan (signed s 0) = false := by cases s <;> decide
/-- THE PROGRAM's PRODUCT AND SUM. -/
theorem more_Fma_ev {a b c : Int} (ha : U a) (hb : U b) (hc : U c) : ∃ r f, Ev (fun k => more_Fma.f k a b c) (r, f) ∧ FmaR a b c r f := by
  obtain ⟨p, g, em, Rm⟩ := mul_ev ha hb
  have up := Rm.range
  have start : ∀ rf : Int × Int, Ev (fun k => more_Fma.j0 k a b c p g (!(decide (fin a) && decide (fin b) && decide (fin c)))) rf → Ev (fun k => more_Fma.f k a b c) rf := by
    intro rf h
    unfold more_Fma.f
    refine Ev.bind em (Ev.call (word_Finite_eq ha) ?_)
    by_cases fa : fin a
    · refine Ev.pos (decide_eq_true fa) (Ev.call (word_Finite_eq hb) ?_)
      by_cases fb : fin b
      · refine Ev.pos (decide_eq_true fb) (Ev.call (word_Finite_eq hc) ?_)
        rw [decide_eq_true fa, decide_eq_true fb, Bool.true_and, Bool.true_and] at h
        exact h
      · rw [decide_eq_false fb, Bool.and_false, Bool.false_and] at h
        exact Ev.neg (by simpa using fb) h
    · rw [decide_eq_false fa, Bool.false_and, Bool.false_and] at h
      exact Ev.neg (by simpa using fa) h
  by_cases fin3 : fin a ∧ fin b ∧ fin c
  · obtain ⟨fa, fb, fc⟩ := fin3
    rw [decide_eq_true fa, decide_eq_true fb, decide_eq_true fc] at start
    obtain ⟨r, f, ev, rd⟩ := fma_fin ha hb hc fa fb fc p g
    exact ⟨r, f, start _ ev, (FmaR.fin fa fb fc).mpr rd⟩
  · have e3 : (decide (fin a) && decide (fin b) && decide (fin c)) = false := by
      cases h : (decide (fin a) && decide (fin b) && decide (fin c))
      · rfl
      · simp at h; exact absurd ⟨h.1.1, h.1.2, h.2⟩ fin3
    rw [e3] at start
    by_cases fin2 : fin a ∧ fin b
    · obtain ⟨fa, fb⟩ := fin2
      have nc : ¬ fin c := fun h => fin3 ⟨fa, fb, h⟩
      have u0 : U (signed (neg p) 0) := U_signed (by decide) (by decide)
      obtain ⟨r, f, ev, R⟩ := add_ev u0 hc
      have hf := R.flags
      refine ⟨r, f, start _ (Ev.succ ?_), ?_⟩
      · simp only [more_Fma.j0]
        refine Ev.pos (by decide) (Ev.call (word_Finite_eq ha) (Ev.pos (decide_eq_true fa) (Ev.call (word_Finite_eq hb) (Ev.succ ?_))))
        simp only [more_Fma.j1]
        refine Ev.pos (decide_eq_true fb) (Ev.call (word_Neg_eq up) ?_)
        rw [neg_def]
        refine Ev.call (make_zero _) (Ev.succ ?_)
        simp only [more_Fma.j2]
        refine Ev.bind ev ?_
        dsimp only
        rw [u8_or0 hf.1 hf.2]
        exact Ev.now _
      · have iz : infZero a b = false := by unfold infZero; simp [not_inf fa, not_inf fb]
        obtain ⟨s1, s2, s3, s4⟩ := signals_signed (neg p)
        unfold FmaR
        rw [iz, if_neg (by decide), fin_nan fa, fin_nan fb, fin_signals fa, fin_signals fb]
        simp only [Bool.false_or]
        rw [if_neg (show ¬ (mag a = INF ∨ mag b = INF) from by rintro (h | h); exact not_inf fa h; exact not_inf fb h)]
        unfold AddR nanF at R
        rw [s2, s4] at R
        simp only [Bool.false_or] at R
        rw [if_neg (show ¬ mag (signed (neg p) 0) = INF from by rw [mag_signed (by decide) (by decide)]; decide)] at R
        by_cases hn : isNan c = true
        · rw [if_pos hn] at R ⊢; exact R
        · rw [if_neg hn] at R ⊢
          have hi : mag c = INF := by
            have : isNan c = false := by simpa using hn
            unfold isNan at this; unfold fin at nc; simp at this; omega
          rw [if_pos hi] at R ⊢; exact R
    · obtain ⟨r, f, ev, R⟩ := add_ev up hc
      have j2 : Ev (fun k => more_Fma.j0 k a b c p g true) (r, Go.bits .or .u8 (Go.bits .and .u8 g 16) f) := by
        refine Ev.succ ?_
        simp only [more_Fma.j0]
        refine Ev.pos trivial (Ev.call (word_Finite_eq ha) ?_)
        have last : Ev (fun k => more_Fma.j1 k c p g false) (r, Go.bits .or .u8 (Go.bits .and .u8 g 16) f) := by
          refine Ev.succ ?_
          simp only [more_Fma.j1]
          refine Ev.neg (by decide) (Ev.succ ?_)
          simp only [more_Fma.j2]
          exact Ev.bind ev (Ev.now _)
        by_cases fa : fin a
        · have nb : ¬ fin b := fun h => fin2 ⟨fa, h⟩
          refine Ev.pos (decide_eq_true fa) (Ev.call (word_Finite_eq hb) ?_)
          rw [decide_eq_false nb]
          exact last
        · exact Ev.neg (by simpa using fa) last
      refine ⟨r, _, start _ j2, ?_⟩
      have orv : ∀ (u v : Bool), Go.bits .or .u8 (Go.bits .and .u8 (if u = true then 16 else 0) 16) (if v = true then 16 else 0) = (if (u || v) = true then 16 else 0) := by decide
      unfold FmaR
      unfold MulR at Rm
      by_cases iz : infZero a b = true
      · rw [if_pos iz]
        have hp : p = QNAN ∧ g = 16 := by
          by_cases hn : (isNan a || isNan b) = true
          · exfalso
            unfold infZero at iz; unfold isNan at hn
            simp at iz hn
            have := INF_lt
            omega
          · rw [if_neg hn, if_pos iz] at Rm; exact Rm
        obtain ⟨rfl, rfl⟩ := hp
        unfold AddR nanF at R
        rw [isNan_QNAN, Bool.true_or, if_pos rfl, signals_QNAN, Bool.false_or] at R
        obtain ⟨rfl, rfl⟩ := R
        have := orv true (signals c)
        simp only [if_true, Bool.true_or] at this
        exact ⟨rfl, this⟩
      · rw [if_neg iz]
        by_cases hn : (isNan a || isNan b) = true
        · rw [if_pos hn] at Rm
          obtain ⟨rfl, rfl⟩ := Rm
          rw [hn, Bool.true_or, if_pos rfl]
          unfold AddR nanF at R
          rw [isNan_QNAN, Bool.true_or, if_pos rfl, signals_QNAN, Bool.false_or] at R
          obtain ⟨rfl, rfl⟩ := R
          exact ⟨rfl, orv _ _⟩
        · rw [if_neg hn, if_neg iz] at Rm
          have hn' : (isNan a || isNan b) = false := by simpa using hn
          obtain ⟨na, nb⟩ := (nan_or hn).2
          have ii : mag a = INF ∨ mag b = INF := by
            refine Decidable.byContradiction fun hcc => fin2 ⟨fin_of na (fun h => hcc (.inl h)), fin_of nb (fun h => hcc (.inr h))⟩
          rw [if_pos ii] at Rm
          obtain ⟨rfl, rfl⟩ := Rm
          have hf := R.flags
          rw [u8_or0 hf.1 hf.2, hn', Bool.false_or, if_pos ii]
          by_cases hc' : isNan c = true
          · rw [if_pos hc']
            obtain ⟨s1, s2, s3, s4⟩ := signals_signed (neg a != neg b)
            unfold AddR nanF at R
            rw [s1, s3] at R
            simp only [Bool.false_or] at R
            rw [if_pos hc'] at R
            have sa : signals a = false := by
              cases h : signals a
              · rfl
              · rw [signals_nan h] at na; cases na
            have sb : signals b = false := by
              cases h : signals b
              · rfl
              · rw [signals_nan h] at nb; cases nb
            rw [sa, sb]
            simp only [Bool.false_or]
            exact R
          · rw [if_neg hc']; exact R
end Gim
