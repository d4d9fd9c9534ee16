/- MoreWholes: any pattern's whole part is that of the reference's lists of bits. -/
import Derived.Test.YtcappkphcjgeoaaTRefW
import Derived.Test.YtcappkphcjgeoaaTInt
import Derived.Test.YtcappkphcjgeoaaFx5
import Derived.Test.YtcappkphcjgeoaaFx19
namespace Go.Proofs.Ytcappkphcjgeoaa.Pure
open Gim Go.RowKit Go.Proofs.Ytcappkphcjgeoaa.F Go.Proofs.YtcappkphcjgeoaaW.PrintWords Go.Proofs.YtcappkphcjgeoaaW.PrintLast
set_option linter.unusedVariables false

theorem head_ok : gimballaw05_head.f 100 = some true := by decide +kernel
theorem head_ev : Ev (fun k => gimballaw05_head.f k) true := Ev.of (fun k => gimballaw05_head.mono k) head_ok

theorem wh_whole {a : Int} (fa : fin a) : wh a / p2 1074 = whole a ∧ decide (wh a % p2 1074 ≠ 0) = lostW a := by
  obtain ⟨e1, e2⟩ := fin_expo fa
  have hP := p2_pos (expo (mag a) + 1074)
  unfold wh whole lostW
  by_cases c : expo (mag a) < 0
  · have e : p2 1074 = p2 (expo (mag a) + 1074) * p2 (-expo (mag a)) := by rw [← p2_add (by omega) (by omega)]; congr 1; omega
    have hQ := p2_pos (-expo (mag a))
    rw [if_pos c, e, Int.mul_comm (mant (mag a)), Int.mul_ediv_mul_of_pos _ _ hP, Int.mul_emod_mul_of_pos _ _ hP]
    refine ⟨rfl, ?_⟩
    apply decide_eq_decide.mpr
    constructor
    · intro h; exact ⟨c, fun h2 => h (by rw [h2]; simp)⟩
    · intro h h2
      have h3 := Int.emod_nonneg (mant (mag a)) (show p2 (-expo (mag a)) ≠ 0 by omega)
      have h4 := h.2
      have := Int.mul_pos hP (show 0 < mant (mag a) % p2 (-expo (mag a)) by omega)
      omega
  · have e : p2 (expo (mag a) + 1074) = p2 (expo (mag a)) * p2 1074 := p2_add (by omega) (by decide)
    have hQ := p2_pos 1074
    rw [if_neg c, e, ← Int.mul_assoc, Int.mul_ediv_cancel _ (by omega), Int.mul_emod_left]
    refine ⟨rfl, ?_⟩
    simp [c]

theorem MoreWholes : gimballaw05_MoreWholes.Pure := by
  intro a wa
  have ha := U_of_wf wa
  apply Ev.rounds
  unfold gimballaw05_MoreWholes.f
  obtain ⟨n, f, ev, R⟩ := more_ToInt_ev ha
  refine Ev.bind head_ev (Ev.pos rfl (Ev.bind ev (Ev.call (word_Finite_eq ha) ?_)))
  unfold ToIntR at R
  by_cases fa : fin a
  · rw [if_pos fa] at R
    obtain ⟨hw, hl⟩ := wh_whole fa
    have t0 := whole_nonneg a
    have lw := bl_length (wh_nonneg a)
    have bw := wh_blen fa
    have k1 := ref_down (a := bl (wh a)) (n := 1074) (bl_bits _) (by omega) (by decide)
    rw [bv_bl (wh_nonneg a), hw, hl] at k1
    have k2 := ref_up (a := [1]) (n := 63) two_pow_bits (by decide) (by decide)
    rw [bv_one, Int.one_mul] at k2
    have h63 : p2 63 = 9223372036854775808 := by decide
    have l63 := bl_length (show 0 ≤ p2 63 by rw [h63]; decide)
    have b63 : blen (p2 63) ≤ 64 := blen_le (by decide) (by rw [h63, p2_64]; decide)
    have lt := bl_length t0
    have bt : blen (whole a) ≤ 2100 := by
      have h1 := blen_mono (show whole a ≤ wh a by rw [← hw]; exact Int.ediv_le_self _ (wh_nonneg a))
      omega
    have k3 := ref_cmp (a := bl (whole a)) (b := bl (p2 63)) (bl_bits _) (bl_bits _) (by omega) (by omega)
    rw [bv_bl t0, bv_bl (by rw [h63]; decide), h63] at k3
    refine Ev.pos (decide_eq_true fa) (Ev.bind (ref_Whole ha fa) (Ev.bind k1 (Ev.bind k2 (Ev.bind k3 ?_))))
    -- what is left, by whether it's too great
    have j0 : Ev (fun k => gimballaw05_MoreWholes.j0 k a n f (bl (whole a)) (lostW a) (!okM (neg a) (whole a))) true := by
      refine Ev.succ ?_
      simp only [gimballaw05_MoreWholes.j0]
      by_cases ok : okM (neg a) (whole a) = true
      · rw [ok]
        have tl : whole a ≤ 9223372036854775808 := by unfold okM at ok; simp at ok; omega
        have b64 : blen (whole a) ≤ 64 := blen_le (by decide) (by rw [p2_64]; omega)
        have k4 := ref_num (a := bl (whole a)) (bl_bits _) (by omega)
        rw [bv_bl t0] at k4
        unfold outM at R
        rw [if_pos ok] at R
        obtain ⟨rfl, rfl⟩ := Prod.mk.inj R
        have hN : word_Neg.f a = some (neg a) := word_Neg_eq ha
        have last : Ev (fun k => if (((if lostW a = true then (1 : Int) else 0) == 1) == lostW a) = true then (if lostW a = true then some true else some ((if lostW a = true then (1 : Int) else 0) == 0)) else some false) true := by
          cases lostW a
          · exact Ev.pos (by decide) (Ev.neg (by decide) (Ev.now _))
          · exact Ev.pos (by decide) (Ev.pos rfl (Ev.now _))
        refine Ev.neg (by decide) (Ev.bind k4 (Ev.call hN ?_))
        unfold sgnW
        cases neg a
        · exact Ev.neg (by decide) (Ev.pos (by simp) last)
        · exact Ev.pos rfl (Ev.pos (by simp) last)
      · have ok' : okM (neg a) (whole a) = false := by simpa using ok
        rw [ok']
        unfold outM at R
        rw [if_neg ok] at R
        obtain ⟨rfl, rfl⟩ := Prod.mk.inj R
        exact Ev.pos rfl (Ev.pos rfl (Ev.now _))
    by_cases c1 : sgn (whole a - 9223372036854775808) > 0
    · have h : 9223372036854775808 < whole a := by unfold sgn at c1; split at c1 <;> (try split at c1) <;> omega
      have e : okM (neg a) (whole a) = false := by unfold okM; rw [decide_eq_false (by omega), decide_eq_false (by omega)]; simp
      rw [e] at j0
      exact Ev.pos c1 j0
    · refine Ev.neg c1 ?_
      by_cases c2 : sgn (whole a - 9223372036854775808) = 0
      · have h : whole a = 9223372036854775808 := by unfold sgn at c2; split at c2 <;> (try split at c2) <;> omega
        have e : okM (neg a) (whole a) = neg a := by unfold okM; rw [decide_eq_false (by omega), decide_eq_true h]; simp
        rw [e] at j0
        exact Ev.pos c2 (Ev.call (word_Neg_eq ha) j0)
      · have h : whole a < 9223372036854775808 := by
          refine Decidable.byContradiction fun hc => ?_
          unfold sgn at c1 c2
          rw [if_neg (by omega)] at c1 c2
          split at c1
          · rename_i h; rw [if_pos h] at c2; exact c2 rfl
          · exact c1 (by decide)
        have e : okM (neg a) (whole a) = true := by unfold okM; rw [decide_eq_true h]; rfl
        rw [e] at j0
        exact Ev.neg c2 j0
  · rw [if_neg fa] at R
    obtain ⟨rfl, rfl⟩ := R
    exact Ev.neg (by simpa using fa) (Ev.pos rfl (Ev.now _))
end Go.Proofs.Ytcappkphcjgeoaa.Pure
