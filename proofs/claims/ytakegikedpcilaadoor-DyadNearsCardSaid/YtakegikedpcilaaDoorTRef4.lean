/- Layer 4's reference: what a pattern is; a whole number rounded. -/
import Derived.Test.YtakegikedpcilaaDoorTRef3
import Derived.Test.YtakegikedpcilaaDoorTNanB
import Derived.Test.YtakegikedpcilaaDoorTNear
import Derived.Test.YtakegikedpcilaaDoorFx12
namespace Gim
open Go Go.RowKit Go.Proofs.YtakegikedpcilaaDoorW.PrintWords Go.Proofs.YtakegikedpcilaaDoorW.PrintLast Go.Proofs.YtakegikedpcilaaDoorW.PrintMore Go.Proofs.YtakegikedpcilaaDoor.F
set_option linter.unusedVariables false


theorem ref_Parts {a : Int} (h : U a) : gimbalref04_Parts.f a = some (neg a, a / 4503599627370496 % 2048, a % 4503599627370496) := by
  obtain ⟨h0, h1⟩ := h
  unfold gimbalref04_Parts.f
  rw [Int.tdiv_eq_ediv_of_nonneg h0, Int.tdiv_eq_ediv_of_nonneg h0, wu64 (x := a / 9223372036854775808) (by omega) (by omega), wu64 (x := a / 4503599627370496) (by omega) (by omega),
    Int.tmod_eq_emod_of_nonneg (by omega), Int.tmod_eq_emod_of_nonneg h0, w64 (by omega) (by omega)]
  have e : (a / 9223372036854775808 == 1) = neg a := by
    unfold neg; rw [Bool.eq_iff_iff]; simp; omega
  rw [e]
theorem ref_IsNan {a : Int} (h : U a) : gimbalref04_IsNan.f a = some (isNan a) := by
  unfold gimbalref04_IsNan.f
  rw [ref_Parts h]
  obtain ⟨h0, h1⟩ := h
  show (if a / 4503599627370496 % 2048 = 2047 then some (decide (a % 4503599627370496 > 0)) else some false) = some (isNan a)
  unfold isNan mag INF
  split
  · congr 1; apply decide_eq_decide.mpr; omega
  · congr 1; symm; apply decide_eq_false; omega
theorem ref_IsInf {a : Int} (h : U a) : gimbalref04_IsInf.f a = some (decide (mag a = INF)) := by
  unfold gimbalref04_IsInf.f
  rw [ref_Parts h]
  obtain ⟨h0, h1⟩ := h
  show (if a / 4503599627370496 % 2048 = 2047 then some (a % 4503599627370496 == 0) else some false) = some (decide (mag a = INF))
  unfold mag INF
  split
  · congr 1; rw [Bool.eq_iff_iff]; simp; omega
  · congr 1; symm; apply decide_eq_false; omega
theorem ref_IsZero {a : Int} (h : U a) : gimbalref04_IsZero.f a = some (decide (mag a = 0)) := by
  unfold gimbalref04_IsZero.f
  rw [ref_Parts h]
  obtain ⟨h0, h1⟩ := h
  show (if a / 4503599627370496 % 2048 = 0 then some (a % 4503599627370496 == 0) else some false) = some (decide (mag a = 0))
  unfold mag
  split
  · congr 1; rw [Bool.eq_iff_iff]; simp; omega
  · congr 1; symm; apply decide_eq_false; omega
theorem ref_Neg {a : Int} (h : U a) : gimbalref04_Neg.f a = some (neg a) := by unfold gimbalref04_Neg.f; rw [ref_Parts h]; rfl
theorem ref_Signed (s : Bool) {m : Int} (h0 : 0 ≤ m) (h1 : m < 9223372036854775808) : gimbalref04_Signed.f s m = some (signed s m) := by
  unfold gimbalref04_Signed.f signed
  cases s
  · rfl
  · rw [if_pos rfl, if_pos rfl, wu64 (by omega) (by omega)]
theorem ref_nan_step {l : List Int} {i n f : Int} {s : Bool} {r : Int × Bool} (h0 : 0 ≤ i) (h1 : i < n) (h2 : i < (l.length : Int)) (hn : n ≤ 1000) (hU : U (rd l i))
    (h : Ev (fun k => gimbalref04_Nans.l0 k (if signals (rd l i) then 16 else f) (s || isNan (rd l i)) l n (i + 1)) r) : Ev (fun k => gimbalref04_Nans.l0 k f s l n i) r := by
  refine Ev.succ ?_
  simp only [gimbalref04_Nans.l0]
  rw [w64 (x := i + 1) (by omega) (by omega)]
  refine Ev.pos h1 (Ev.pos h0 (Ev.pos h2 (Ev.call (ref_IsNan hU) ?_)))
  by_cases hN : isNan (rd l i) = true
  · refine Ev.pos hN (Ev.call (ref_Parts hU) ?_)
    dsimp only
    rw [hN, Bool.or_true] at h
    obtain ⟨u0, u1⟩ := hU
    have hm : INF < mag (rd l i) := by unfold isNan at hN; simpa using hN
    unfold mag INF at hm
    by_cases hs : rd l i % 4503599627370496 < 2251799813685248
    · have e : signals (rd l i) = true := by unfold signals; simp; omega
      rw [e] at h
      exact Ev.pos hs h
    · have e : signals (rd l i) = false := by unfold signals; simp; omega
      rw [e] at h
      exact Ev.neg hs h
  · have e : signals (rd l i) = false := by
      cases hc : signals (rd l i)
      · rfl
      · exact absurd (signals_nan hc) hN
    have e2 : isNan (rd l i) = false := by simpa using hN
    rw [e, e2, Bool.or_false] at h
    exact Ev.neg hN h
theorem ref_nan_end {l : List Int} {i n f : Int} {s : Bool} (h1 : ¬ i < n) : Ev (fun k => gimbalref04_Nans.l0 k f s l n i) (f, s) := by
  refine Ev.succ ?_
  simp only [gimbalref04_Nans.l0]
  exact Ev.neg h1 (Ev.now _)
theorem ref_Nans2 {a b : Int} (ha : U a) (hb : U b) : Ev (fun k => gimbalref04_Nans.f k [a, b]) (nanF a b, isNan a || isNan b) := by
  unfold gimbalref04_Nans.f
  refine ref_nan_step (by decide) (by simp) (by simp) (by simp) ha ?_
  refine ref_nan_step (by decide) (by simp) (by simp) (by simp) hb ?_
  have e : (if signals (rd [a, b] (0 + 1)) then (16 : Int) else if signals (rd [a, b] 0) then 16 else 0) = nanF a b := by
    show (if signals b then (16 : Int) else if signals a then 16 else 0) = nanF a b
    unfold nanF
    cases signals a <;> cases signals b <;> rfl
  have e2 : (false || isNan (rd [a, b] 0) || isNan (rd [a, b] (0 + 1))) = (isNan a || isNan b) := by
    show (false || isNan a || isNan b) = _
    rw [Bool.false_or]
  rw [e, e2]
  exact ref_nan_end (by simp)

theorem ref_Nans1 {a : Int} (ha : U a) : Ev (fun k => gimbalref04_Nans.f k [a]) (if signals a then 16 else 0, isNan a) := by
  unfold gimbalref04_Nans.f
  refine ref_nan_step (by decide) (by simp) (by simp) (by simp) ha ?_
  have e2 : (false || isNan (rd [a] 0)) = isNan a := by rw [Bool.false_or]; rfl
  rw [e2]
  exact ref_nan_end (by simp)

/-- A number's mantissa and exponent, by the pattern's parts. -/
theorem ref_fin {a : Int} (h : U a) (fa : fin a) : (a / 4503599627370496 % 2048 = 0 → mant (mag a) = a % 4503599627370496 ∧ expo (mag a) = -1074) ∧
    (0 < a / 4503599627370496 % 2048 → mant (mag a) = a % 4503599627370496 + 4503599627370496 ∧ expo (mag a) = a / 4503599627370496 % 2048 - 1075) ∧ 0 ≤ a / 4503599627370496 % 2048 ∧ a / 4503599627370496 % 2048 < 2047 := by
  obtain ⟨h0, h1⟩ := h
  unfold fin mag INF at fa
  unfold mant expo mag
  refine ⟨fun e => ?_, fun e => ?_, by omega, by omega⟩
  · rw [if_pos (by omega), if_pos (by omega)]; exact ⟨by omega, rfl⟩
  · rw [if_neg (by omega), if_neg (by omega)]; omega
/-- The reference rounds a whole number times a power of two. -/
theorem ref_roundS (s : Bool) {X E : Int} (hX : 0 ≤ X) (hb : blen X ≤ 40000) (hE : -10000 ≤ E) (hE' : E ≤ 10000) :
    ∃ r f, Ev (fun k => gimbalref03_Round.f k s (bl X) E false) (r, f) ∧ Rd ((sgd s X : Rat) * pw E) s r f := by
  by_cases h0 : X = 0
  · subst h0
    rw [bl_zero]
    refine ⟨_, _, ref_round_zero s hE hE', ⟨fun _ => ⟨rfl, rfl⟩, fun h => absurd (int_pw_zero.mpr ?_) h⟩⟩
    cases s <;> rfl
  · have hl := bl_length hX
    obtain ⟨b, f, ev, rb⟩ := ref_round s (l := bl X) (E := E) (bl_bits _) (by omega) hE hE' false (by rw [bv_bl hX]; omega)
    rw [bv_bl hX] at rb
    have e : ((4 * X + (if false = true then 1 else 0) : Int) : Rat) * pw (E - 2) = (X : Rat) * pw E := by
      have : pw E = (p2 2 : Rat) * pw (E - 2) := by rw [← pw_p2 (by decide), ← pw_add]; congr 1; omega
      rw [this, show p2 2 = 4 from by decide]; push_cast; grind
    rw [e] at rb
    refine ⟨_, _, ev, ⟨fun h => absurd (int_pw_zero.mp h) ?_, fun _ => ⟨b, ?_, ?_⟩⟩⟩
    · unfold sgd; cases s <;> simp <;> omega
    · rw [rabs_sgd s hX]; exact rb
    · congr 1
      have : ((sgd s X : Rat) * pw E < 0) ↔ sgd s X < 0 := int_pw_neg
      rw [Bool.eq_iff_iff]; simp only [decide_eq_true_eq, this]
      unfold sgd; cases s <;> simp <;> omega
theorem ref_parts_step {a : Int} (ha : U a) (fa : fin a) {g : Nat → Int → Int → Option (Int × Int)} {r : Int × Int} (h : Ev (fun k => g k (expo (mag a) + 1074) (mant (mag a))) r) :
    Ev (fun k => if a / 4503599627370496 % 2048 > 0 then g k (wrap64 (a / 4503599627370496 % 2048 - 1)) (IntKind.u64.wrap (a % 4503599627370496 + 4503599627370496)) else g k (a / 4503599627370496 % 2048) (a % 4503599627370496)) r := by
  obtain ⟨p0, p1, e0, e1⟩ := ref_fin ha fa
  by_cases c : a / 4503599627370496 % 2048 > 0
  · obtain ⟨q1, q2⟩ := p1 c
    rw [q1, q2] at h
    rw [w64 (by omega) (by omega), wu64 (by omega) (by omega)]
    rw [show a / 4503599627370496 % 2048 - 1075 + 1074 = a / 4503599627370496 % 2048 - 1 from by omega] at h
    exact Ev.pos c h
  · obtain ⟨q1, q2⟩ := p0 (by omega)
    rw [q1, q2] at h
    refine Ev.neg c ?_
    rw [show a / 4503599627370496 % 2048 = 0 from by omega]
    exact h
/-- The reference rounds what lies above a list of bits; or is it. -/
theorem ref_round_near (s : Bool) {W E : Int} {x : Rat} (hW : 0 < W) (hb : blen W ≤ 40000) (hE : -10000 ≤ E) (hE' : E ≤ 10000) (more : Bool) (hx0 : more = false → x = (W : Rat) * pw E)
    (hx1 : more = true → ((W : Rat) * pw E < x ∧ x < (W + 1 : Int) * pw E) ∧ 54 ≤ blen W) :
    ∃ m f, Ev (fun k => gimbalref03_Round.f k s (bl W) E more) (signed s m, f) ∧ RB x m f := by
  have hl := bl_length (Int.le_of_lt hW)
  obtain ⟨m, f, ev, rb⟩ := ref_round s (l := bl W) (E := E) (bl_bits _) (by omega) hE hE' more (by rw [bv_bl (by omega)]; exact hW)
  rw [bv_bl (by omega)] at rb
  have e2 : pw E = 4 * pw (E - 2) := by
    have : pw E = (p2 2 : Rat) * pw (E - 2) := by rw [← pw_p2 (by decide), ← pw_add]; congr 1; omega
    rw [this, show p2 2 = 4 from by decide]; rfl
  refine ⟨m, f, ev, ?_⟩
  cases more
  · have e : ((4 * W + (if false = true then 1 else 0) : Int) : Rat) * pw (E - 2) = (W : Rat) * pw E := by
      rw [e2]; push_cast; grind
    rw [e, ← hx0 rfl] at rb
    exact rb
  · obtain ⟨hx, h54⟩ := hx1 rfl
    have e : ((4 * W + (if true = true then 1 else 0) : Int) : Rat) * pw (E - 2) = (W : Rat) * pw E + pw (E - 2) := by
      rw [e2, if_pos rfl]; push_cast; grind
    rw [e] at rb
    have := pw_pos (E - 2)
    refine RB.near hW h54 ⟨by grind, ?_⟩ hx rb
    have e3 : ((W + 1 : Int) : Rat) * pw E = (W : Rat) * pw E + pw E := by push_cast; grind
    rw [e3]; grind

end Gim
