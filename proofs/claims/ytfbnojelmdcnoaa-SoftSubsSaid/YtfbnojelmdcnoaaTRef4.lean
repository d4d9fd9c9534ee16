/- Layer 4's reference: what a pattern is, what a sum is. -/
import Derived.Test.YtfbnojelmdcnoaaTRef3
import Derived.Test.YtfbnojelmdcnoaaTOps
import Derived.Test.YtfbnojelmdcnoaaFx7
import Derived.Test.YtfbnojelmdcnoaaFx10
namespace Gim
open Go Go.RowKit Go.Proofs.YtfbnojelmdcnoaaW.PrintWords Go.Proofs.YtfbnojelmdcnoaaW.PrintLast Go.Proofs.YtfbnojelmdcnoaaW.PrintMore Go.Proofs.Ytfbnojelmdcnoaa.F
set_option linter.unusedVariables false

theorem ref_Parts {a : Int} (h : U a) : gimbalref04_Parts.f a = some (neg a, a / 4503599627370496 % 2048, a % 4503599627370496) := by
  obtain ⟨h0, h1⟩ := h
  unfold gimbalref04_Parts.f
  rw [Int.tdiv_eq_ediv_of_nonneg h0, Int.tdiv_eq_ediv_of_nonneg h0, wu64 (x := a / 9223372036854775808) (by omega) (by omega), wu64 (x := a / 4503599627370496) (by omega) (by omega),
    Int.tmod_eq_emod_of_nonneg (by omega), Int.tmod_eq_emod_of_nonneg h0, w64 (by omega) (by omega)]
  have e : (a / 9223372036854775808 == 1) = neg a := by
    unfold neg; rw [Bool.eq_iff_iff]; simp; omega
  rw [e]
theorem ref_IsNan {a : Int} (h : U a) : gimbalref04_IsNan.f a = some (isNan a) := by
  unfold gimbalref04_IsNan.f
  rw [ref_Parts h]
  obtain ⟨h0, h1⟩ := h
  show (if a / 4503599627370496 % 2048 = 2047 then some (decide (a % 4503599627370496 > 0)) else some false) = some (isNan a)
  unfold isNan mag INF
  split
  · congr 1; apply decide_eq_decide.mpr; omega
  · congr 1; symm; apply decide_eq_false; omega
theorem ref_IsInf {a : Int} (h : U a) : gimbalref04_IsInf.f a = some (decide (mag a = INF)) := by
  unfold gimbalref04_IsInf.f
  rw [ref_Parts h]
  obtain ⟨h0, h1⟩ := h
  show (if a / 4503599627370496 % 2048 = 2047 then some (a % 4503599627370496 == 0) else some false) = some (decide (mag a = INF))
  unfold mag INF
  split
  · congr 1; rw [Bool.eq_iff_iff]; simp; omega
  · congr 1; symm; apply decide_eq_false; omega
theorem ref_IsZero {a : Int} (h : U a) : gimbalref04_IsZero.f a = some (decide (mag a = 0)) := by
  unfold gimbalref04_IsZero.f
  rw [ref_Parts h]
  obtain ⟨h0, h1⟩ := h
  show (if a / 4503599627370496 % 2048 = 0 then some (a % 4503599627370496 == 0) else some false) = some (decide (mag a = 0))
  unfold mag
  split
  · congr 1; rw [Bool.eq_iff_iff]; simp; omega
  · congr 1; symm; apply decide_eq_false; omega
theorem ref_Neg {a : Int} (h : U a) : gimbalref04_Neg.f a = some (neg a) := by unfold gimbalref04_Neg.f; rw [ref_Parts h]; rfl
theorem ref_Signed (s : Bool) {m : Int} (h0 : 0 ≤ m) (h1 : m < 9223372036854775808) : gimbalref04_Signed.f s m = some (signed s m) := by
  unfold gimbalref04_Signed.f signed
  cases s
  · rfl
  · rw [if_pos rfl, if_pos rfl, wu64 (by omega) (by omega)]
theorem ref_nan_step {l : List Int} {i n f : Int} {s : Bool} {r : Int × Bool} (h0 : 0 ≤ i) (h1 : i < n) (h2 : i < (l.length : Int)) (hn : n ≤ 1000) (hU : U (rd l i))
    (h : Ev (fun k => gimbalref04_Nans.l0 k (if signals (rd l i) then 16 else f) (s || isNan (rd l i)) l n (i + 1)) r) : Ev (fun k => gimbalref04_Nans.l0 k f s l n i) r := by
  refine Ev.succ ?_
  simp only [gimbalref04_Nans.l0]
  rw [w64 (x := i + 1) (by omega) (by omega)]
  refine Ev.pos h1 (Ev.pos h0 (Ev.pos h2 (Ev.call (ref_IsNan hU) ?_)))
  by_cases hN : isNan (rd l i) = true
  · refine Ev.pos hN (Ev.call (ref_Parts hU) ?_)
    dsimp only
    rw [hN, Bool.or_true] at h
    obtain ⟨u0, u1⟩ := hU
    have hm : INF < mag (rd l i) := by unfold isNan at hN; simpa using hN
    unfold mag INF at hm
    by_cases hs : rd l i % 4503599627370496 < 2251799813685248
    · have e : signals (rd l i) = true := by unfold signals; simp; omega
      rw [e] at h
      exact Ev.pos hs h
    · have e : signals (rd l i) = false := by unfold signals; simp; omega
      rw [e] at h
      exact Ev.neg hs h
  · have e : signals (rd l i) = false := by
      cases hc : signals (rd l i)
      · rfl
      · exact absurd (signals_nan hc) hN
    have e2 : isNan (rd l i) = false := by simpa using hN
    rw [e, e2, Bool.or_false] at h
    exact Ev.neg hN h
theorem ref_nan_end {l : List Int} {i n f : Int} {s : Bool} (h1 : ¬ i < n) : Ev (fun k => gimbalref04_Nans.l0 k f s l n i) (f, s) := by
  refine Ev.succ ?_
  simp only [gimbalref04_Nans.l0]
  exact Ev.neg h1 (Ev.now _)
theorem ref_Nans2 {a b : Int} (ha : U a) (hb : U b) : Ev (fun k => gimbalref04_Nans.f k [a, b]) (nanF a b, isNan a || isNan b) := by
  unfold gimbalref04_Nans.f
  refine ref_nan_step (by decide) (by simp) (by simp) (by simp) ha ?_
  refine ref_nan_step (by decide) (by simp) (by simp) (by simp) hb ?_
  have e : (if signals (rd [a, b] (0 + 1)) then (16 : Int) else if signals (rd [a, b] 0) then 16 else 0) = nanF a b := by
    show (if signals b then (16 : Int) else if signals a then 16 else 0) = nanF a b
    unfold nanF
    cases signals a <;> cases signals b <;> rfl
  have e2 : (false || isNan (rd [a, b] 0) || isNan (rd [a, b] (0 + 1))) = (isNan a || isNan b) := by
    show (false || isNan a || isNan b) = _
    rw [Bool.false_or]
  rw [e, e2]
  exact ref_nan_end (by simp)

/-- A number's mantissa and exponent, by the pattern's parts. -/
theorem ref_fin {a : Int} (h : U a) (fa : fin a) : (a / 4503599627370496 % 2048 = 0 → mant (mag a) = a % 4503599627370496 ∧ expo (mag a) = -1074) ∧
    (0 < a / 4503599627370496 % 2048 → mant (mag a) = a % 4503599627370496 + 4503599627370496 ∧ expo (mag a) = a / 4503599627370496 % 2048 - 1075) ∧ 0 ≤ a / 4503599627370496 % 2048 ∧ a / 4503599627370496 % 2048 < 2047 := by
  obtain ⟨h0, h1⟩ := h
  unfold fin mag INF at fa
  unfold mant expo mag
  refine ⟨fun e => ?_, fun e => ?_, by omega, by omega⟩
  · rw [if_pos (by omega), if_pos (by omega)]; exact ⟨by omega, rfl⟩
  · rw [if_neg (by omega), if_neg (by omega)]; omega
/-- A number as a whole one, times 2^-1074. -/
def wh (a : Int) : Int := mant (mag a) * p2 (expo (mag a) + 1074)
theorem wh_nonneg (a : Int) : 0 ≤ wh a := Int.mul_nonneg (mant_nonneg mag_lt.1) (Int.le_of_lt (p2_pos _))
theorem wh_vm (a : Int) : vm (mag a) = (wh a : Rat) * pw (-1074) := by
  have := expo_ge (mag_lt (a := a)).1
  have e : pw (expo (mag a)) = (p2 (expo (mag a) + 1074) : Rat) * pw (-1074) := by rw [← pw_p2 (by omega), ← pw_add]; congr 1; omega
  unfold vm wh
  rw [e]; push_cast; grind
theorem wh_blen {a : Int} (fa : fin a) : blen (wh a) ≤ 2100 := by
  obtain ⟨h1, h2⟩ := fin_expo fa
  have h3 := mant_lt (m := mag a)
  refine blen_le (by decide) ?_
  have e : (9007199254740992 : Int) = p2 53 := by decide
  have hP := p2_pos (expo (mag a) + 1074)
  have : wh a < p2 53 * p2 (expo (mag a) + 1074) := by rw [← e]; exact Int.mul_lt_mul_of_pos_right h3 hP
  rw [← p2_add (by decide) (by omega)] at this
  have := p2_le (show 53 + (expo (mag a) + 1074) ≤ 2100 by omega)
  omega
theorem wh_zero {a : Int} : wh a = 0 ↔ mag a = 0 := by
  have hP := p2_pos (expo (mag a) + 1074)
  have h0 := (mag_lt (a := a)).1
  constructor
  · intro h
    by_cases hm : mag a = 0
    · exact hm
    · have := Int.mul_pos (mant_pos (m := mag a) (by omega)) hP
      unfold wh at h; omega
  · intro h; unfold wh mant; rw [h]; simp
def sgd (s : Bool) (X : Int) : Int := if s then -X else X
theorem wh_val (a : Int) : val a = (sgd (neg a) (wh a) : Rat) * pw (-1074) := by
  rw [val_eq, wh_vm]; unfold sgd; cases neg a <;> simp <;> grind
theorem ref_Whole {a : Int} (h : U a) (fa : fin a) : Ev (fun k => gimbalref04_Whole.f k a) (bl (wh a)) := by
  obtain ⟨p0, p1, e0, e1⟩ := ref_fin h fa
  unfold gimbalref04_Whole.f
  refine Ev.call (ref_Parts h) ?_
  dsimp only
  by_cases c : a / 4503599627370496 % 2048 = 0
  · have hw : wh a = a % 4503599627370496 := by unfold wh; rw [(p0 c).1, (p0 c).2]; simp [p2_0]
    refine Ev.pos c (Ev.bind (ref_of (x := a % 4503599627370496) ⟨by omega, by omega⟩) ?_)
    rw [hw]; exact Ev.now _
  · have hw : wh a = (a % 4503599627370496 + 4503599627370496) * p2 (a / 4503599627370496 % 2048 - 1) := by
      unfold wh; rw [(p1 (by omega)).1, (p1 (by omega)).2]; congr 2; omega
    rw [wu64 (x := a % 4503599627370496 + 4503599627370496) (by omega) (by omega), w64 (x := a / 4503599627370496 % 2048 - 1) (by omega) (by omega)]
    have hx : U (a % 4503599627370496 + 4503599627370496) := ⟨by omega, by omega⟩
    have hl := bl_length hx.1
    have hb : blen (a % 4503599627370496 + 4503599627370496) ≤ 64 := blen_le (by decide) (by rw [p2_64]; exact hx.2)
    have k := ref_up (a := bl (a % 4503599627370496 + 4503599627370496)) (n := a / 4503599627370496 % 2048 - 1) (bl_bits _) (by omega) (by omega)
    rw [bv_bl hx.1, ← hw] at k
    exact Ev.neg c (Ev.bind (ref_of hx) (Ev.bind k (Ev.now _)))

theorem Rd.any {x : Rat} {z z' : Bool} {r f : Int} (h : Rd x z r f) (hx : x ≠ 0) : Rd x z' r f := ⟨fun h => absurd h hx, h.num⟩
theorem int_pw_neg {S E : Int} : (S : Rat) * pw E < 0 ↔ S < 0 := by
  have := mul_pw_lt (a := S) (b := 0) (e := E)
  rw [← this]; simp
theorem int_pw_zero {S E : Int} : (S : Rat) * pw E = 0 ↔ S = 0 := by
  constructor
  · intro h; exact mul_pw_inj (a := S) (b := 0) (e := E) (by rw [h]; simp)
  · intro h; rw [h]; simp
theorem rabs_sgd (s : Bool) {X E : Int} (hX : 0 ≤ X) : rabs ((sgd s X : Rat) * pw E) = (X : Rat) * pw E := by
  have h0 : 0 ≤ (X : Rat) * pw E := by have := mul_pw_le (a := 0) (b := X) (e := E); simpa using this.mpr hX
  have e1 : rabs ((X : Rat) * pw E) = (X : Rat) * pw E := by unfold rabs; rw [if_neg (by grind)]
  unfold sgd
  cases s
  · exact e1
  · show rabs (((-X : Int) : Rat) * pw E) = _
    have e2 : ((-X : Int) : Rat) * pw E = -((X : Rat) * pw E) := by push_cast; grind
    rw [e2, rabs_neg, e1]
/-- The reference rounds a whole number times a power of two. -/
theorem ref_roundS (s : Bool) {X E : Int} (hX : 0 ≤ X) (hb : blen X ≤ 40000) (hE : -10000 ≤ E) (hE' : E ≤ 10000) :
    ∃ r f, Ev (fun k => gimbalref03_Round.f k s (bl X) E false) (r, f) ∧ Rd ((sgd s X : Rat) * pw E) s r f := by
  by_cases h0 : X = 0
  · subst h0
    rw [bl_zero]
    refine ⟨_, _, ref_round_zero s hE hE', ⟨fun _ => ⟨rfl, rfl⟩, fun h => absurd (int_pw_zero.mpr ?_) h⟩⟩
    cases s <;> rfl
  · have hl := bl_length hX
    obtain ⟨b, f, ev, rb⟩ := ref_round s (l := bl X) (E := E) (bl_bits _) (by omega) hE hE' false (by rw [bv_bl hX]; omega)
    rw [bv_bl hX] at rb
    have e : ((4 * X + (if false = true then 1 else 0) : Int) : Rat) * pw (E - 2) = (X : Rat) * pw E := by
      have : pw E = (p2 2 : Rat) * pw (E - 2) := by rw [← pw_p2 (by decide), ← pw_add]; congr 1; omega
      rw [this, show p2 2 = 4 from by decide]; push_cast; grind
    rw [e] at rb
    refine ⟨_, _, ev, ⟨fun h => absurd (int_pw_zero.mp h) ?_, fun _ => ⟨b, ?_, ?_⟩⟩⟩
    · unfold sgd; cases s <;> simp <;> omega
    · rw [rabs_sgd s hX]; exact rb
    · congr 1
      have : ((sgd s X : Rat) * pw E < 0) ↔ sgd s X < 0 := int_pw_neg
      rw [Bool.eq_iff_iff]; simp only [decide_eq_true_eq, this]
      unfold sgd; cases s <;> simp <;> omega
theorem ref_add_fin {a b : Int} (ha : U a) (hb : U b) (fa : fin a) (fb : fin b) : ∃ r f, Ev (fun k => gimbalref04_Add.j0 k a b false) (r, f) ∧ Rd (val a + val b) (neg a && neg b) r f := by
  have ia := not_inf fa
  have ib := not_inf fb
  have X0 := wh_nonneg a
  have Y0 := wh_nonneg b
  have XL := wh_blen fa
  have YL := wh_blen fb
  have lX := bl_length X0
  have lY := bl_length Y0
  have XR : wh a < p2 2100 := by
    by_cases h : 0 < wh a
    · exact Int.lt_of_lt_of_le (blen_pos h).2.2 (p2_le XL)
    · have := p2_pos 2100; omega
  have YR : wh b < p2 2100 := by
    by_cases h : 0 < wh b
    · exact Int.lt_of_lt_of_le (blen_pos h).2.2 (p2_le YL)
    · have := p2_pos 2100; omega
  have hp := p2_succ (a := 2100) (by decide)
  rw [show (2100 : Int) + 1 = 2101 from by decide] at hp
  have hv : val a + val b = ((sgd (neg a) (wh a) + sgd (neg b) (wh b) : Int) : Rat) * pw (-1074) := by rw [wh_val a, wh_val b]; push_cast; grind
  have start : ∀ r : Int × Int, Ev (fun k => gimbalref04_Add.j1 k a b (if mag a = 0 then decide (mag b = 0) else false)) r → Ev (fun k => gimbalref04_Add.j0 k a b false) r := by
    intro r h
    refine Ev.succ ?_
    simp only [gimbalref04_Add.j0]
    refine Ev.neg (by decide) (Ev.call (ref_IsInf ha) (Ev.neg (by simpa using ia) (Ev.call (ref_IsInf hb) (Ev.neg (by simpa using ib) (Ev.call (ref_IsZero ha) ?_)))))
    by_cases z : mag a = 0
    · rw [if_pos z] at h
      exact Ev.pos (by simpa using z) (Ev.call (ref_IsZero hb) h)
    · rw [if_neg z] at h
      exact Ev.neg (by simpa using z) h
  by_cases z : mag a = 0 ∧ mag b = 0
  · have hx : val a + val b = 0 := by rw [val_zero_iff.mpr z.1, val_zero_iff.mpr z.2]; grind
    have e : (if mag a = 0 then decide (mag b = 0) else false) = true := by rw [if_pos z.1]; simpa using z.2
    refine ⟨_, _, start _ (Ev.succ ?_), ⟨fun _ => ⟨rfl, rfl⟩, fun h => absurd hx h⟩⟩
    simp only [gimbalref04_Add.j1]
    refine Ev.pos e (Ev.call (ref_Neg ha) ?_)
    cases hn : neg a
    · exact Ev.neg (by decide) (Ev.call (ref_Signed _ (by decide) (by decide)) (Ev.now _))
    · exact Ev.pos rfl (Ev.call (ref_Neg hb) (Ev.call (ref_Signed _ (by decide) (by decide)) (Ev.now _)))
  · have e : (if mag a = 0 then decide (mag b = 0) else false) = false := by
      by_cases h : mag a = 0
      · rw [if_pos h]; exact decide_eq_false (fun h2 => z ⟨h, h2⟩)
      · rw [if_neg h]
    have k1 := ref_add (a := bl (wh a)) (b := bl (wh b)) (bl_bits _) (bl_bits _) (by omega) (by omega)
    rw [bv_bl X0, bv_bl Y0] at k1
    -- what is left, by the signs
    have main : ∀ r : Int × Int, Ev (fun k => if (neg a != neg b) = true then ((gimbalref02_Cmp.f k (bl (wh a)) (bl (wh b))).bind fun t447 => (if t447 < 0 then ((gimbalref04_Neg.f b).bind fun t448 => (gimbalref04_Add.j2 k (bl (wh b)) (bl (wh a)) t448)) else (gimbalref04_Add.j2 k (bl (wh a)) (bl (wh b)) (neg a)))) else ((gimbalref03_Round.f k (neg a) (bl (wh a + wh b)) (-1074) false).bind fun bt455 => (some (bt455.1, bt455.2)))) r →
        Ev (fun k => gimbalref04_Add.j0 k a b false) r := by
      intro r h
      refine start r (Ev.succ ?_)
      simp only [gimbalref04_Add.j1]
      rw [e]
      exact Ev.neg (by decide) (Ev.bind (ref_Whole ha fa) (Ev.bind (ref_Whole hb fb) (Ev.call (ref_Neg ha) (Ev.bind k1 (Ev.call (ref_Neg ha) (Ev.call (ref_Neg hb) h))))))
    by_cases hs : neg a = neg b
    · obtain ⟨r, f, ev, rd⟩ := ref_roundS (neg a) (X := wh a + wh b) (E := -1074) (by omega) (blen_le (by decide) (by have := p2_le (show (2101 : Int) ≤ 40000 by decide); omega)) (by decide) (by decide)
      refine ⟨r, f, main _ (Ev.neg (by simp [hs]) (Ev.bind ev (Ev.now _))), ?_⟩
      have e1 : sgd (neg a) (wh a) + sgd (neg b) (wh b) = sgd (neg a) (wh a + wh b) := by rw [← hs]; unfold sgd; cases neg a <;> simp <;> omega
      have e2 : (neg a && neg b) = neg a := by rw [← hs]; simp
      rw [hv, e1, e2]; exact rd
    · have hs' : (neg a != neg b) = true := by simpa using hs
      have e2 : (neg a && neg b) = false := by revert hs; cases neg a <;> cases neg b <;> simp
      have k2 := ref_cmp (a := bl (wh a)) (b := bl (wh b)) (bl_bits _) (bl_bits _) (by omega) (by omega)
      rw [bv_bl X0, bv_bl Y0] at k2
      have j2 : ∀ (s : Bool) (c d : Int), 0 ≤ c → 0 ≤ d → d ≤ c → c < p2 2100 → blen c ≤ 2100 → blen d ≤ 2100 → ∃ r f, Ev (fun k => gimbalref04_Add.j2 k (bl c) (bl d) s) (r, f) ∧ Rd ((sgd s (c - d) : Rat) * pw (-1074)) false r f := by
        intro s c d c0 d0 hdc cR cL dL
        have lc := bl_length c0
        have ld := bl_length d0
        have k3 := ref_sub (a := bl c) (b := bl d) (bl_bits _) (bl_bits _) (by omega) (by rw [bv_bl c0, bv_bl d0]; exact hdc)
        rw [bv_bl c0, bv_bl d0] at k3
        have hcd : 0 ≤ c - d := by omega
        have lcd := bl_length hcd
        by_cases hz : c - d = 0
        · refine ⟨0, 0, Ev.succ ?_, ⟨fun _ => ⟨rfl, rfl⟩, fun h => absurd (by rw [hz]; cases s <;> simp [sgd]) h⟩⟩
          simp only [gimbalref04_Add.j2]
          refine Ev.bind k3 (Ev.pos ?_ (Ev.now _))
          rw [lcd, hz, blen_zero]
        · obtain ⟨r, f, ev, rd⟩ := ref_roundS s (X := c - d) (E := -1074) hcd (blen_le (by decide) (by have := p2_le (show (2101 : Int) ≤ 40000 by decide); omega)) (by decide) (by decide)
          refine ⟨r, f, Ev.succ ?_, rd.any (fun h => ?_)⟩
          · simp only [gimbalref04_Add.j2]
            have := (blen_pos (x := c - d) (by omega)).1
            exact Ev.bind k3 (Ev.neg (by omega) (Ev.bind ev (Ev.now _)))
          · have := int_pw_zero.mp h
            unfold sgd at this; revert this; cases s <;> simp <;> omega
      by_cases c : wh a < wh b
      · obtain ⟨r, f, ev, rd⟩ := j2 (neg b) (wh b) (wh a) Y0 X0 (by omega) YR YL XL
        refine ⟨r, f, main _ (Ev.pos hs' (Ev.bind k2 (Ev.pos (by unfold sgn; rw [if_pos (by omega)]; decide) (Ev.call (ref_Neg hb) ev)))), ?_⟩
        have e1 : sgd (neg a) (wh a) + sgd (neg b) (wh b) = sgd (neg b) (wh b - wh a) := by revert hs; unfold sgd; cases neg a <;> cases neg b <;> simp <;> omega
        rw [hv, e1, e2]; exact rd
      · obtain ⟨r, f, ev, rd⟩ := j2 (neg a) (wh a) (wh b) X0 Y0 (by omega) XR XL YL
        refine ⟨r, f, main _ (Ev.pos hs' (Ev.bind k2 (Ev.neg (by unfold sgn; rw [if_neg (by omega)]; split <;> decide) ev))), ?_⟩
        have e1 : sgd (neg a) (wh a) + sgd (neg b) (wh b) = sgd (neg a) (wh a - wh b) := by revert hs; unfold sgd; cases neg a <;> cases neg b <;> simp <;> omega
        rw [hv, e1, e2]; exact rd
/-- THE REFERENCE's SUM. -/
theorem ref_add_ev {a b : Int} (ha : U a) (hb : U b) : ∃ r f, Ev (fun k => gimbalref04_Add.f k a b) (r, f) ∧ AddR a b r f := by
  unfold AddR
  by_cases h : (isNan a || isNan b) = true
  · refine ⟨_, _, ?_, by rw [if_pos h]; exact ⟨rfl, rfl⟩⟩
    unfold gimbalref04_Add.f
    exact Ev.bind (ref_Nans2 ha hb) (Ev.pos h (Ev.now _))
  · obtain ⟨h0, na, nb⟩ := nan_or h
    have start : ∀ r : Int × Int, Ev (fun k => gimbalref04_Add.j0 k a b (if mag a = INF then decide (mag b = INF) else false)) r → Ev (fun k => gimbalref04_Add.f k a b) r := by
      intro r hr
      unfold gimbalref04_Add.f
      refine Ev.bind (ref_Nans2 ha hb) (Ev.neg h (Ev.call (ref_IsInf ha) ?_))
      by_cases i : mag a = INF
      · rw [if_pos i] at hr
        exact Ev.pos (by simpa using i) (Ev.call (ref_IsInf hb) hr)
      · rw [if_neg i] at hr
        exact Ev.neg (by simpa using i) hr
    by_cases ia : mag a = INF
    · by_cases ib : mag b = INF
      · by_cases c : a = b
        · refine ⟨a, 0, start _ (Ev.succ ?_), by rw [if_neg h, if_pos ia, if_neg (fun hh => hh.2 c)]; exact ⟨rfl, rfl⟩⟩
          simp only [gimbalref04_Add.j0]
          rw [if_pos ia]
          exact Ev.pos (by simpa using ib) (Ev.pos c (Ev.now _))
        · refine ⟨QNAN, 16, start _ (Ev.succ ?_), by rw [if_neg h, if_pos ia, if_pos ⟨ib, c⟩]; exact ⟨rfl, rfl⟩⟩
          simp only [gimbalref04_Add.j0]
          rw [if_pos ia]
          exact Ev.pos (by simpa using ib) (Ev.neg c (Ev.now _))
      · refine ⟨a, 0, start _ (Ev.succ ?_), by rw [if_neg h, if_pos ia, if_neg (fun hh => ib hh.1)]; exact ⟨rfl, rfl⟩⟩
        simp only [gimbalref04_Add.j0]
        rw [if_pos ia]
        exact Ev.neg (by simpa using ib) (Ev.call (ref_IsInf ha) (Ev.pos (by simpa using ia) (Ev.now _)))
    · by_cases ib : mag b = INF
      · refine ⟨b, 0, start _ (Ev.succ ?_), by rw [if_neg h, if_neg ia, if_pos ib]; exact ⟨rfl, rfl⟩⟩
        simp only [gimbalref04_Add.j0]
        rw [if_neg ia]
        exact Ev.neg (by decide) (Ev.call (ref_IsInf ha) (Ev.neg (by simpa using ia) (Ev.call (ref_IsInf hb) (Ev.pos (by simpa using ib) (Ev.now _)))))
      · obtain ⟨r, f, ev, rd⟩ := ref_add_fin ha hb (fin_of na ia) (fin_of nb ib)
        rw [if_neg ia] at start
        exact ⟨r, f, start _ ev, by rw [if_neg h, if_neg ia, if_neg ib]; exact rd⟩
/-- The flags are small. -/
theorem RB.flags {x : Rat} {b f : Int} (h : RB x b f) : 0 ≤ f ∧ f ≤ 16 := by
  obtain ⟨q, n, _, _, rfl⟩ := h.ex
  split
  · split
    · omega
    · split <;> omega
  · omega
theorem Rd.flags {x : Rat} {z : Bool} {r f : Int} (h : Rd x z r f) : 0 ≤ f ∧ f ≤ 16 := by
  by_cases hx : x = 0
  · have := (h.zero hx).2; omega
  · obtain ⟨m, rb, _⟩ := h.num hx; exact rb.flags
theorem nanF_le (a b : Int) : 0 ≤ nanF a b ∧ nanF a b ≤ 16 := by unfold nanF; split <;> omega
theorem AddR.flags {a b r f : Int} (h : AddR a b r f) : 0 ≤ f ∧ f ≤ 16 := by
  have := nanF_le a b
  unfold AddR at h
  split at h
  · omega
  · split at h
    · split at h <;> omega
    · split at h
      · omega
      · exact h.flags
theorem AddR.range {a b r f : Int} (ha : U a) (hb : U b) (h : AddR a b r f) : U r := by
  unfold AddR at h
  have q : U QNAN := by unfold QNAN U; decide
  split at h
  · rw [h.1]; exact q
  · split at h
    · split at h
      · rw [h.1]; exact q
      · rw [h.1]; exact ha
    · split at h
      · rw [h.1]; exact hb
      · exact h.range.1
end Gim
