/- What more.ToInt answers: a number's whole part. -/
import Derived.Test.YtcappkphcjgeoaaTNan
import Derived.Test.YtcappkphcjgeoaaTRep
import Derived.Test.YtcappkphcjgeoaaFx5
namespace Gim
open Go Go.RowKit Go.Proofs.YtcappkphcjgeoaaW.PrintWords Go.Proofs.YtcappkphcjgeoaaW.PrintLast Go.Proofs.YtcappkphcjgeoaaW.PrintMore Go.Proofs.Ytcappkphcjgeoaa.F
set_option linter.unusedVariables false

/-- The whole part of a number without its sign; was something lost? -/
def whole (a : Int) : Int := if expo (mag a) < 0 then mant (mag a) / p2 (-expo (mag a)) else mant (mag a) * p2 (expo (mag a))
def lostW (a : Int) : Bool := decide (expo (mag a) < 0 ∧ mant (mag a) % p2 (-expo (mag a)) ≠ 0)
def okM (s : Bool) (M : Int) : Bool := decide (M < 9223372036854775808) || (s && decide (M = 9223372036854775808))
def sgnW (s : Bool) (M : Int) : Int := if s = true then wrap64 (-(wrap64 M)) else wrap64 M
def outM (s : Bool) (M f : Int) : Int × Int := if okM s M = true then (sgnW s M, f) else (0, 16)
def ToIntR (a n f : Int) : Prop := if fin a then (n, f) = outM (neg a) (whole a) (if lostW a then 1 else 0) else n = 0 ∧ f = 16
theorem whole_nonneg (a : Int) : 0 ≤ whole a := by
  have := mant_nonneg (m := mag a) mag_lt.1
  unfold whole
  split
  · exact Int.ediv_nonneg this (Int.le_of_lt (p2_pos _))
  · exact Int.mul_nonneg this (Int.le_of_lt (p2_pos _))
theorem more_ToInt_j0 {a M f : Int} (ha : U a) (h0 : 0 ≤ M) : Ev (fun k => more_ToInt.j0 k a M f) (outM (neg a) M f) := by
  have hN : word_Neg.f a = some (neg a) := word_Neg_eq ha
  refine Ev.succ ?_
  simp only [more_ToInt.j0]
  refine Ev.call hN ?_
  cases hn : neg a
  · refine Ev.neg (by decide) (Ev.succ ?_)
    simp only [more_ToInt.j1]
    by_cases c : M < 9223372036854775808
    · have e : outM false M f = (wrap64 M, f) := by unfold outM okM; rw [decide_eq_true c]; rfl
      rw [e]
      exact Ev.pos (decide_eq_true c) (Ev.now _)
    · have e : outM false M f = (0, 16) := by unfold outM okM; rw [decide_eq_false c]; rfl
      rw [e]
      refine Ev.neg (by simpa using c) (Ev.call hN ?_)
      exact Ev.neg (by rw [hn]; decide) (Ev.now _)
  · refine Ev.pos rfl (Ev.succ ?_)
    simp only [more_ToInt.j1]
    refine Ev.neg (by decide) (Ev.call hN (Ev.pos hn ?_))
    by_cases c : M ≤ 9223372036854775808
    · have e : outM true M f = (wrap64 (-(wrap64 M)), f) := by
        unfold outM okM
        rw [if_pos (by simp; omega)]; rfl
      rw [e]
      exact Ev.pos c (Ev.now _)
    · have e : outM true M f = (0, 16) := by
        unfold outM okM
        rw [if_neg (by simp; omega)]
      rw [e]
      exact Ev.neg c (Ev.now _)
theorem more_ToInt_ev {a : Int} (ha : U a) : ∃ n f, Ev (fun k => more_ToInt.f k a) (n, f) ∧ ToIntR a n f := by
  unfold ToIntR
  by_cases fa : fin a
  · simp only [if_pos fa]
    have hF := word_Finite_eq ha
    have done : (∃ f, f = (if lostW a then 1 else 0) ∧ ∀ r, Ev (fun k => more_ToInt.j0 k a (whole a) f) r → Ev (fun k => more_ToInt.f k a) r) →
        ∃ n f, Ev (fun k => more_ToInt.f k a) (n, f) ∧ (n, f) = outM (neg a) (whole a) (if lostW a then 1 else 0) := by
      rintro ⟨f, hf, h⟩
      have := h _ (more_ToInt_j0 ha (whole_nonneg a))
      rw [hf] at this
      exact ⟨_, _, this, rfl⟩
    by_cases z : mag a = 0
    · have m0 : mant (mag a) = 0 := by rw [z]; rfl
      have e0 : expo (mag a) = -1074 := by rw [z]; rfl
      have hw : whole a = 0 := by unfold whole; rw [m0, e0]; simp
      have hl : lostW a = false := by unfold lostW; rw [m0]; simp
      refine done ⟨0, by rw [hl]; rfl, fun r h => ?_⟩
      unfold more_ToInt.f
      refine Ev.call hF (Ev.pos (decide_eq_true fa) (Ev.bind (word_Parts_none ha (.inl z)) (Ev.neg (by decide) (Ev.pos rfl (Ev.pos (by decide) ?_)))))
      rw [hw] at h
      rw [show shl .u64 (0 : Int) 0 = 0 from by decide]
      exact h
    · have mp : 0 < mag a := by have := (mag_lt (a := a)).1; omega
      have pa := word_Parts_ev ha mp fa
      have emag : a % 9223372036854775808 = mag a := rfl
      rw [emag] at pa
      obtain ⟨e1, e2⟩ := fin_expo fa
      have m0 := mant_pos mp
      have m1 := mant_lt (m := mag a)
      have uM := mant_U a
      have eW : wv 0 (mant (mag a)) = mant (mag a) := by unfold wv; omega
      by_cases c : expo (mag a) < 0
      · have hP := p2_pos (-expo (mag a))
        obtain ⟨h', l', ev, u1, u2, eq⟩ := wide_Right_ev (h := 0) (l := mant (mag a)) (n := -expo (mag a)) U_0 uM (by omega)
        rw [eW] at ev eq
        have hw : whole a = l' := by
          unfold whole; rw [if_pos c, ← eq]
          have h1 : mant (mag a) / p2 (-expo (mag a)) ≤ mant (mag a) := Int.ediv_le_self _ (by omega)
          rw [← eq] at h1
          unfold wv at *; unfold U at *; omega
        have hl : lostW a = decide (mant (mag a) % p2 (-expo (mag a)) ≠ 0) := by unfold lostW; simp [c]
        refine done ⟨_, rfl, fun r h => ?_⟩
        unfold more_ToInt.f
        refine Ev.call hF (Ev.pos (decide_eq_true fa) (Ev.bind pa (Ev.pos c ?_)))
        dsimp only
        rw [w64 (x := -expo (mag a)) (by omega) (by omega)]
        refine Ev.bind ev ?_
        dsimp only
        rw [hl, hw] at h
        by_cases d : mant (mag a) % p2 (-expo (mag a)) ≠ 0
        · rw [if_pos (decide_eq_true d)] at h
          exact Ev.pos (decide_eq_true d) h
        · rw [decide_eq_false d] at h
          exact Ev.neg (by simpa using d) h
      · have hw : whole a = mant (mag a) * p2 (expo (mag a)) := by unfold whole; rw [if_neg c]
        have hl : lostW a = false := by unfold lostW; simp [c]
        obtain ⟨b1, b2, b3⟩ := blen_pos m0
        have b53 := mant_blen a
        have hP := p2_pos (expo (mag a))
        by_cases d : expo (mag a) + blen (mant (mag a)) > 64
        · have big : 18446744073709551616 ≤ whole a := by
            rw [hw]
            have h1 : p2 (blen (mant (mag a)) - 1) * p2 (expo (mag a)) ≤ mant (mag a) * p2 (expo (mag a)) := Int.mul_le_mul_of_nonneg_right b2 (Int.le_of_lt hP)
            rw [← p2_add (by omega) (by omega)] at h1
            have h2 := p2_le (show 64 ≤ blen (mant (mag a)) - 1 + expo (mag a) by omega)
            rw [p2_64] at h2; omega
          refine ⟨0, 16, ?_, by unfold outM okM; rw [if_neg (by simp; omega)]⟩
          unfold more_ToInt.f
          refine Ev.call hF (Ev.pos (decide_eq_true fa) (Ev.bind pa (Ev.neg c (Ev.neg (by show ¬ mant (mag a) = 0; omega) (Ev.bind (bits_Len64_ev uM) ?_)))))
          dsimp only
          rw [w64 (x := expo (mag a) + blen (mant (mag a))) (by omega) (by omega)]
          exact Ev.pos d (Ev.now _)
        · have small : mant (mag a) * p2 (expo (mag a)) < 18446744073709551616 := by
            have h1 : mant (mag a) * p2 (expo (mag a)) < p2 (blen (mant (mag a))) * p2 (expo (mag a)) := Int.mul_lt_mul_of_pos_right b3 hP
            rw [← p2_add (by omega) (by omega)] at h1
            have h2 := p2_le (show blen (mant (mag a)) + expo (mag a) ≤ 64 by omega)
            rw [p2_64] at h2; omega
          have hs : shl .u64 (mant (mag a)) (expo (mag a)) = whole a := by
            rw [shl_u64 (by omega) (by omega), hw]
            exact Int.emod_eq_of_lt (Int.mul_nonneg uM.1 (Int.le_of_lt hP)) small
          refine done ⟨0, by rw [hl]; rfl, fun r h => ?_⟩
          unfold more_ToInt.f
          refine Ev.call hF (Ev.pos (decide_eq_true fa) (Ev.bind pa (Ev.neg c (Ev.neg (by show ¬ mant (mag a) = 0; omega) (Ev.bind (bits_Len64_ev uM) ?_)))))
          dsimp only
          rw [w64 (x := expo (mag a) + blen (mant (mag a))) (by omega) (by omega), hs]
          exact Ev.neg d (Ev.pos (by omega) h)
  · simp only [if_neg fa]
    refine ⟨0, 16, ?_, rfl, rfl⟩
    unfold more_ToInt.f
    exact Ev.call (word_Finite_eq ha) (Ev.neg (by simpa using fa) (Ev.now _))
end Gim
