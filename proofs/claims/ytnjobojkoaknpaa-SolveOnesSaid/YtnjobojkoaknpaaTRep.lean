/- Which numbers are patterns; the nearest one is near. -/
import Derived.Test.YtnjobojkoaknpaaTVal
import Derived.Test.YtnjobojkoaknpaaFx15
namespace Gim
open Go Go.RowKit Go.Proofs.YtnjobojkoaknpaaW.PrintWords Go.Proofs.YtnjobojkoaknpaaW.PrintLast Go.Proofs.YtnjobojkoaknpaaW.PrintMore Go.Proofs.Ytnjobojkoaknpaa.F
set_option linter.unusedVariables false

theorem repr_exists {D G : Int} (hD : 0 < D) (hD' : D ≤ 9007199254740992) (hG : -1074 ≤ G) : ∃ m, 0 < m ∧ vm m = (D : Rat) * pw G := by
  by_cases hb : D = 9007199254740992
  · subst hb
    refine ⟨enc G 9007199254740992, by unfold enc; omega, ?_⟩
    rw [vm_enc hG (by decide) (by decide) (.inr (by decide))]
  · obtain ⟨b1, b2, b3⟩ := blen_pos hD
    have hL : blen D ≤ 53 := blen_le (by decide) (by rw [show p2 53 = 9007199254740992 from by decide]; omega)
    obtain ⟨s, hs0, hs1, hs2, hs3⟩ : ∃ s, 0 ≤ s ∧ s ≤ 53 - blen D ∧ s ≤ G + 1074 ∧ (s = 53 - blen D ∨ s = G + 1074) := by
      by_cases c : 53 - blen D ≤ G + 1074
      · exact ⟨53 - blen D, by omega, by omega, by omega, .inl rfl⟩
      · exact ⟨G + 1074, by omega, by omega, by omega, .inr rfl⟩
    have hP := p2_pos s
    have h1 : D * p2 s < 9007199254740992 := by
      have e53 : (9007199254740992 : Int) = p2 (blen D) * p2 (53 - blen D) := by rw [← p2_add (by omega) (by omega), show blen D + (53 - blen D) = 53 from by omega]; decide
      have h1 : D * p2 s < p2 (blen D) * p2 s := Int.mul_lt_mul_of_pos_right b3 hP
      have h2 : p2 (blen D) * p2 s ≤ p2 (blen D) * p2 (53 - blen D) := Int.mul_le_mul_of_nonneg_left (p2_le hs1) (Int.le_of_lt (p2_pos _))
      omega
    have h0 : 0 < D * p2 s := Int.mul_pos hD hP
    refine ⟨enc (G - s) (D * p2 s), by unfold enc; omega, ?_⟩
    rw [vm_enc (by omega) (by omega) (by omega) ?_]
    · have : pw G = (p2 s : Rat) * pw (G - s) := by rw [← pw_p2 hs0, ← pw_add]; congr 1; omega
      rw [this]; push_cast; grind
    · rcases hs3 with h | h
      · refine .inr ?_
        have e52 : (4503599627370496 : Int) = p2 (blen D - 1) * p2 s := by rw [← p2_add (by omega) (by omega), show blen D - 1 + s = 52 from by omega]; decide
        rw [e52]
        exact Int.mul_le_mul_of_nonneg_right b2 (Int.le_of_lt hP)
      · exact .inl (by omega)

theorem vm_scale {m G : Int} (h0 : 0 ≤ m) (hG : G ≤ expo m) : vm m = (mant m * p2 (expo m - G) : Int) * pw G := by
  unfold vm
  have : pw (expo m) = (p2 (expo m - G) : Rat) * pw G := by rw [← pw_p2 (by omega), ← pw_add]; congr 1; omega
  rw [this]; push_cast; grind
/-- A difference of numbers of which one is at most twice the other is a number. -/
theorem sterbenz {m m' : Int} (h0 : 0 < m') (h : m' ≤ m) (h2 : vm m ≤ 2 * vm m') (hf : m < INF) : ∃ d, 0 ≤ d ∧ d < INF ∧ vm d = vm m - vm m' := by
  have hE : expo m' ≤ expo m := by unfold expo; grind
  have e1 := vm_scale (m := m) (G := expo m') (by omega) hE
  have e2 : vm m' = (mant m' : Rat) * pw (expo m') := rfl
  generalize hM : mant m * p2 (expo m - expo m') = M at *
  have hle : mant m' ≤ M := by
    have := vm_mono (by omega) h
    rw [e1, e2] at this
    exact mul_pw_le.mp this
  have hle2 : M ≤ 2 * mant m' := by
    rw [e1, e2] at h2
    have : (M : Rat) * pw (expo m') ≤ (2 * mant m' : Int) * pw (expo m') := by push_cast; grind
    exact mul_pw_le.mp this
  have hd : vm m - vm m' = (M - mant m' : Int) * pw (expo m') := by rw [e1, e2]; push_cast; grind
  have hl := mant_lt (m := m')
  by_cases hz : M - mant m' = 0
  · refine ⟨0, by decide, by decide, ?_⟩
    rw [hd, hz, vm_zero]; grind
  · obtain ⟨d, d0, dv⟩ := repr_exists (D := M - mant m') (G := expo m') (by omega) (by omega) (expo_ge (by omega))
    refine ⟨d, by omega, ?_, by rw [dv, hd]⟩
    have : vm d ≤ vm m := by rw [dv, ← hd]; have := vm_pos h0; grind
    have := (vm_le_iff (by omega) (by omega)).mp this
    omega

theorem word_Finite_eq {a : Int} (h : U a) : word_Finite.f a = some (decide (fin a)) := by
  unfold word_Finite.f
  rw [word_Exp_eq h]
  simp only [Option.bind_some]
  congr 1
  apply decide_eq_decide.mpr
  obtain ⟨h0, h1⟩ := h
  unfold fin mag INF
  constructor <;> intro h <;> omega
theorem U_of_wf {a : Int} (h : (Lit.int .u64 a).wf = true) : U a := by
  simp [Lit.wf, IntKind.min, IntKind.max, IntKind.signed, IntKind.bits] at h
  unfold U; omega
end Gim
