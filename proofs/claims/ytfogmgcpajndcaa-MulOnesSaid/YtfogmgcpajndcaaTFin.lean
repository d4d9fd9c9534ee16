/- Whether all numbers of a matrix are finite. -/
import Derived.Test.YtfogmgcpajndcaaTMat
import Derived.Test.YtfogmgcpajndcaaTRep
import Derived.Test.YtfogmgcpajndcaaFx2
namespace Gim
open Go Go.RowKit Go.Proofs.YtfogmgcpajndcaaW.PrintWords Go.Proofs.YtfogmgcpajndcaaW.PrintLast Go.Proofs.YtfogmgcpajndcaaW.PrintMore Go.Proofs.Ytfogmgcpajndcaa.F
set_option linter.unusedVariables false
set_option linter.unusedSectionVars false

section
variable {R C : Nat} {s : Int} {d : List Int} (hR : R ≤ 100) (hC : C ≤ 100) (hs : s ≤ 1099511627776) (hu : ∀ x ∈ d, U x)
include hR hC hs hu
theorem finite_l1 {i : Nat} (hi : i < R) {nb : Bool} (next : Ev (fun K => mat_Matrix_Finite.l0 K R ((i + 1 : Nat) : Int) R C s d) nb) :
    ∀ t k : Nat, C - k = t → k ≤ C → ∃ b, Ev (fun K => mat_Matrix_Finite.l1 K i R i C k R C s d) b ∧ (b = true ↔ (∀ j : Nat, k ≤ j → j < C → fin (at4 R C s d i j)) ∧ nb = true) := by
  intro t
  induction t with
  | zero =>
    intro k h1 h2
    refine ⟨nb, Ev.succ ?_, ?_⟩
    · simp only [mat_Matrix_Finite.l1]
      rw [w64 (x := (i : Int) + 1) (by omega) (by omega)]
      exact Ev.neg (by omega) next
    · exact ⟨fun h => ⟨fun j h3 h4 => by omega, h⟩, fun h => h.2⟩
  | succ t ih =>
    intro k h1 h2
    have u := at_U (r := R) (c := C) (s := s) hu i k
    by_cases fi : fin (at4 R C s d i k)
    · obtain ⟨b, ev, hb⟩ := ih (k + 1) (by omega) (by omega)
      refine ⟨b, Ev.succ ?_, ?_⟩
      · simp only [mat_Matrix_Finite.l1]
        rw [w64 (x := (k : Int) + 1) (by omega) (by omega)]
        exact Ev.pos (by omega) (Ev.call (at_eq ⟨by omega, by omega, by omega⟩ _ _ _) (Ev.call (word_Finite_eq u) (Ev.pos (decide_eq_true fi) ev)))
      · rw [hb]
        constructor
        · rintro ⟨h3, h4⟩
          refine ⟨fun j h5 h6 => ?_, h4⟩
          by_cases e : j = k
          · subst e; exact fi
          · exact h3 j (by omega) h6
        · rintro ⟨h3, h4⟩
          exact ⟨fun j h5 h6 => h3 j (by omega) h6, h4⟩
    · refine ⟨false, Ev.succ ?_, ?_⟩
      · simp only [mat_Matrix_Finite.l1]
        exact Ev.pos (by omega) (Ev.call (at_eq ⟨by omega, by omega, by omega⟩ _ _ _) (Ev.call (word_Finite_eq u) (Ev.neg (by rw [decide_eq_false fi]; decide) (Ev.now _))))
      · constructor
        · intro h; cases h
        · intro h; exact absurd (h.1 k (Nat.le_refl _) (by omega)) fi
theorem finite_l0 : ∀ t i : Nat, R - i = t → i ≤ R → ∃ b, Ev (fun K => mat_Matrix_Finite.l0 K R i R C s d) b ∧ (b = true ↔ ∀ j k : Nat, i ≤ j → j < R → k < C → fin (at4 R C s d j k)) := by
  intro t
  induction t with
  | zero =>
    intro i h1 h2
    refine ⟨true, Ev.succ ?_, ⟨fun _ j k h3 h4 => by omega, fun _ => rfl⟩⟩
    simp only [mat_Matrix_Finite.l0]
    exact Ev.neg (by omega) (Ev.now _)
  | succ t ih =>
    intro i h1 h2
    obtain ⟨nb, ev, hn⟩ := ih (i + 1) (by omega) (by omega)
    obtain ⟨b, ev2, hb⟩ := finite_l1 hR hC hs hu (i := i) (by omega) ev C 0 (by omega) (by omega)
    refine ⟨b, Ev.succ ?_, ?_⟩
    · simp only [mat_Matrix_Finite.l0]
      exact Ev.pos (by omega) ev2
    · rw [hb, hn]
      constructor
      · rintro ⟨h3, h4⟩ j k h5 h6 h7
        by_cases e : j = i
        · subst e; exact h3 k (by omega) h7
        · exact h4 j k (by omega) h6 h7
      · intro h
        exact ⟨fun j h5 h6 => h i j (Nat.le_refl _) (by omega) h6, fun j k h5 h6 h7 => h j k (by omega) h6 h7⟩
/-- Whether all is finite. -/
theorem finite_ev : ∃ b, Ev (fun K => mat_Matrix_Finite.f K R C s d) b ∧ (b = true ↔ ∀ j k : Nat, j < R → k < C → fin (at4 R C s d j k)) := by
  unfold mat_Matrix_Finite.f
  obtain ⟨b, ev, hb⟩ := finite_l0 hR hC hs hu R 0 (by omega) (by omega)
  exact ⟨b, ev, hb.trans ⟨fun h j k h1 h2 => h j k (by omega) h1 h2, fun h j k _ h1 h2 => h j k h1 h2⟩⟩
end
end Gim
