/- What more.Scale answers: a number times a power of two, rounded. -/
import Derived.Test.YtkkfghecmhmdpaaTNanB
import Derived.Test.YtkkfghecmhmdpaaFx5
namespace Gim
open Go Go.RowKit Go.Proofs.YtkkfghecmhmdpaaW.PrintWords Go.Proofs.YtkkfghecmhmdpaaW.PrintLast Go.Proofs.YtkkfghecmhmdpaaW.PrintMore Go.Proofs.Ytkkfghecmhmdpaa.F
set_option linter.unusedVariables false

theorem RB.huge {x : Rat} {b f : Int} (h : RB x b f) (hx : pw 1024 ≤ x) : b = INF ∧ f = 5 := by
  obtain ⟨q, n, hr, rfl, rfl⟩ := h.ex
  have e53 : ((9007199254740992 : Int) : Rat) = pw 53 := by rw [pw_p2 (by decide)]; rfl
  have h1 : pw 1024 < pw (53 + q) := by rw [pw_add, ← e53]; exact Std.lt_of_le_of_lt hx hr.hi
  have hq : 972 ≤ q := by
    refine Decidable.byContradiction fun hc => ?_
    have := pw_mono (show 53 + q ≤ 1024 by omega)
    grind
  have hn : 4503599627370496 ≤ n := by rcases hr.n_ge' with h | h <;> omega
  have e : ¬ enc q n < INF := by unfold enc INF; omega
  rw [if_neg e, if_neg e]; exact ⟨rfl, rfl⟩
theorem RB.small {x : Rat} {b f : Int} (h : RB x b f) (hx : x < pw (-1075)) : b = 0 ∧ f = 3 := by
  obtain ⟨q, n, hr, rfl, rfl⟩ := h.ex
  have e52 : ((4503599627370496 : Int) : Rat) = pw 52 := by rw [pw_p2 (by decide)]; rfl
  have hq : q = -1074 := by
    rcases hr.lo with h | h
    · exact h
    · rw [e52, ← pw_add] at h
      have h2 : pw (52 + q) < pw (-1075) := Std.lt_of_le_of_lt h hx
      have h3 := hr.hq
      have := pw_mono (show -1075 ≤ 52 + q by omega)
      grind
  subst hq
  have h1 := hr.near2
  have e2 := pw_pred (-1074)
  have hn : n ≤ 0 := by
    refine Decidable.byContradiction fun hc => ?_
    have h3 : ((1 : Int) : Rat) * pw (-1074) ≤ ((2 * n - 1 : Int) : Rat) * pw (-1074) := mul_pw_le.mpr (by omega)
    rw [show (-1074 : Int) - 1 = -1075 from by decide] at e2
    have e3 : ((1 : Int) : Rat) * pw (-1074) = pw (-1074) := by simp
    grind
  have hn0 := hr.n_nonneg
  obtain rfl : n = 0 := by omega
  have e : enc (-1074) 0 < INF := by decide
  have hp := hr.pos
  have hm := pw_mono (show (-1075 : Int) ≤ -1022 by decide)
  rw [if_pos e, if_pos e, if_neg (by simp; grind), if_pos (by grind)]
  exact ⟨rfl, rfl⟩

def ScaleR (a c r f : Int) : Prop :=
  if isNan a = true then r = QNAN ∧ f = (if signals a then 16 else 0)
  else if mag a = INF ∨ mag a = 0 then r = a ∧ f = 0
  else Rd (val a * pw c) (neg a) r f
theorem val_scale (a c : Int) : val a * pw c = (sgd (neg a) (mant (mag a)) : Rat) * pw (expo (mag a) + c) := by
  rw [val_mant, pw_add]; grind
theorem sgd_neg (s : Bool) {X : Int} (hX : 0 < X) : sgd s X < 0 ↔ s = true := by unfold sgd; cases s <;> simp <;> omega
theorem sgd_zero (s : Bool) {X : Int} : sgd s X = 0 ↔ X = 0 := by unfold sgd; cases s <;> simp
/-- A rounded magnitude, with its sign. -/
theorem Rd.of_sgd (s : Bool) {X E m f : Int} (hX : 0 < X) (z : Bool) (h : RB ((X : Rat) * pw E) m f) : Rd ((sgd s X : Rat) * pw E) z (signed s m) f := by
  refine ⟨fun h0 => ?_, fun _ => ⟨m, by rw [rabs_sgd s (by omega)]; exact h, ?_⟩⟩
  · have := (sgd_zero s).mp (int_pw_zero.mp h0); omega
  · congr 1
    rw [Bool.eq_iff_iff, decide_eq_true_eq, int_pw_neg, sgd_neg s hX]
theorem ScaleR.unique {a c c' r f r' f' : Int} (h : ScaleR a c r f) (h' : ScaleR a c' r' f') (hc : c = c' ∨ (5000 ≤ c ∧ 5000 ≤ c') ∨ (c ≤ -5000 ∧ c' ≤ -5000)) : r = r' ∧ f = f' := by
  unfold ScaleR at h h'
  by_cases c1 : isNan a = true
  · rw [if_pos c1] at h h'; omega
  · rw [if_neg c1] at h h'
    by_cases c2 : mag a = INF ∨ mag a = 0
    · rw [if_pos c2] at h h'; omega
    · rw [if_neg c2] at h h'
      rcases hc with hc | hc
      · subst hc; exact h.unique h'
      · have fa : fin a := fin_of (by simpa using c1) (fun hh => c2 (.inl hh))
        obtain ⟨e1, e2⟩ := fin_expo fa
        have m0 := mant_pos (m := mag a) (by have := (mag_lt (a := a)).1; omega)
        have m1 := mant_lt (m := mag a)
        have e53 : ((9007199254740992 : Int) : Rat) = pw 53 := by rw [pw_p2 (by decide)]; rfl
        have key : ∀ c r f, Rd (val a * pw c) (neg a) r f → ∃ m, r = signed (neg a) m ∧ RB ((mant (mag a) : Rat) * pw (expo (mag a) + c)) m f := by
          intro c r f h
          rw [val_scale] at h
          obtain ⟨m, rb, e⟩ := h.num (fun h0 => by have := (sgd_zero _).mp (int_pw_zero.mp h0); omega)
          rw [rabs_sgd _ (by omega)] at rb
          refine ⟨m, ?_, rb⟩
          rw [e]; congr 1
          rw [Bool.eq_iff_iff, decide_eq_true_eq, int_pw_neg, sgd_neg _ m0]
        have big : ∀ c m f, 5000 ≤ c → RB ((mant (mag a) : Rat) * pw (expo (mag a) + c)) m f → m = INF ∧ f = 5 := by
          intro c m f hc rb
          refine rb.huge ?_
          have h1 : ((1 : Int) : Rat) * pw (expo (mag a) + c) ≤ (mant (mag a) : Rat) * pw (expo (mag a) + c) := mul_pw_le.mpr (by omega)
          have h2 := pw_mono (show (1024 : Int) ≤ expo (mag a) + c by omega)
          have e3 : ((1 : Int) : Rat) * pw (expo (mag a) + c) = pw (expo (mag a) + c) := by simp
          grind
        have low : ∀ c m f, c ≤ -5000 → RB ((mant (mag a) : Rat) * pw (expo (mag a) + c)) m f → m = 0 ∧ f = 3 := by
          intro c m f hc rb
          refine rb.small ?_
          have h1 : (mant (mag a) : Rat) * pw (expo (mag a) + c) < ((9007199254740992 : Int) : Rat) * pw (expo (mag a) + c) := mul_pw_lt.mpr m1
          rw [e53, ← pw_add] at h1
          exact Std.lt_of_lt_of_le h1 (pw_mono (by omega))
        obtain ⟨m, rfl, rb⟩ := key c r f h
        obtain ⟨m', rfl, rb'⟩ := key c' r' f' h'
        rcases hc with ⟨h1, h2⟩ | ⟨h1, h2⟩
        · obtain ⟨rfl, rfl⟩ := big c m f h1 rb
          obtain ⟨rfl, rfl⟩ := big c' m' f' h2 rb'
          exact ⟨rfl, rfl⟩
        · obtain ⟨rfl, rfl⟩ := low c m f h1 rb
          obtain ⟨rfl, rfl⟩ := low c' m' f' h2 rb'
          exact ⟨rfl, rfl⟩
theorem ScaleR.flags {a c r f : Int} (h : ScaleR a c r f) : 0 ≤ f ∧ f ≤ 16 := by
  unfold ScaleR at h
  split at h
  · split at h <;> omega
  · split at h
    · omega
    · exact h.flags
theorem ScaleR.range {a c r f : Int} (ha : U a) (h : ScaleR a c r f) : U r := by
  unfold ScaleR at h
  split at h
  · rw [h.1]; exact ⟨by decide, by decide⟩
  · split at h
    · rw [h.1]; exact ha
    · exact h.range.1
/-- THE PROGRAM's PRODUCT WITH A POWER OF TWO. -/
theorem more_Scale_ev {a : Int} (ha : U a) (n : Int) : ∃ r f, Ev (fun k => more_Scale.f k a n) (r, f) ∧ ScaleR a (mx (-10000) (mn n 10000)) r f := by
  unfold ScaleR
  have hk := word_Kind_ev ha
  rw [kind_mag] at hk
  by_cases h : isNan a = true
  · refine ⟨QNAN, _, ?_, by rw [if_pos h]; exact ⟨rfl, rfl⟩⟩
    unfold more_Scale.f
    refine Ev.bind hk (Ev.pos (kind_nan.mpr h) (Ev.bind (word_Signals_ev ha) ?_))
    cases hs : signals a
    · exact Ev.neg (by decide) (Ev.now _)
    · exact Ev.pos rfl (Ev.now _)
  · have n5 : ¬ kindOf (mag a) = 5 := fun hh => h (kind_nan.mp hh)
    have start : ∀ r : Int × Int, Ev (fun k => more_Scale.j0 k a n (decide (mag a = INF ∨ mag a = 0))) r → Ev (fun k => more_Scale.f k a n) r := by
      intro r hr
      unfold more_Scale.f
      refine Ev.bind hk (Ev.neg n5 ?_)
      by_cases i : mag a = INF
      · have k4 := kind_inf.mpr i
        rw [decide_eq_true (.inl i)] at hr
        refine Ev.pos k4 ?_
        rw [k4]; exact hr
      · refine Ev.neg (fun hh => i (kind_inf.mp hh)) ?_
        have e : decide (mag a = INF ∨ mag a = 0) = (kindOf (mag a) == 1) := by
          rw [Bool.eq_iff_iff]; simp [i, kind_zero]
        rw [e] at hr
        exact hr
    by_cases c : mag a = INF ∨ mag a = 0
    · refine ⟨a, 0, start _ (Ev.succ ?_), by rw [if_neg h, if_pos c]; exact ⟨rfl, rfl⟩⟩
      simp only [more_Scale.j0]
      exact Ev.pos (decide_eq_true c) (Ev.now _)
    · rw [decide_eq_false c] at start
      have fa : fin a := fin_of (by simpa using h) (fun hh => c (.inl hh))
      have m0' : 0 < mag a := by have := (mag_lt (a := a)).1; omega
      have pa := word_Parts_ev ha m0' fa
      obtain ⟨e1, e2⟩ := fin_expo fa
      have m0 := mant_pos m0'
      have uM := mant_U a
      have emag : a % 9223372036854775808 = mag a := rfl
      rw [emag] at pa
      have hc : -10000 ≤ mx (-10000) (mn n 10000) ∧ mx (-10000) (mn n 10000) ≤ 10000 := by unfold mx mn; split <;> split <;> omega
      have eW : wv 0 (mant (mag a)) = mant (mag a) := by unfold wv; omega
      generalize hd : mx (-10000) (mn n 10000) = d at *
      obtain ⟨m, f, ev, rb⟩ := round_Round_ev (neg a) (h := 0) (l := mant (mag a)) (E := expo (mag a) + d) U_0 uM (by omega) (by omega) false (x := (mant (mag a) : Rat) * pw (expo (mag a) + d)) (by rw [eW]; exact m0) (fun _ => by rw [eW]) (fun h => by cases h)
      refine ⟨signed (neg a) m, f, start _ (Ev.succ ?_), ?_⟩
      · simp only [more_Scale.j0]
        refine Ev.neg (by decide) (Ev.bind pa (Ev.call (word_Neg_eq ha) ?_))
        rw [hd, neg_def]
        dsimp only
        rw [w64 (x := expo (mag a) + d) (by omega) (by omega)]
        exact Ev.bind ev (Ev.now _)
      · rw [if_neg h, if_neg c, val_scale]
        exact Rd.of_sgd _ m0 _ rb
end Gim
