/- Whether two matrices have the same patterns. -/
import Derived.Test.YtfogmgcpajndcaaTMat
import Derived.Test.YtfogmgcpajndcaaFx14
namespace Gim
open Go Go.RowKit Go.Proofs.YtfogmgcpajndcaaW.PrintWords Go.Proofs.YtfogmgcpajndcaaW.PrintLast Go.Proofs.YtfogmgcpajndcaaW.PrintMore Go.Proofs.Ytfogmgcpajndcaa.F
set_option linter.unusedVariables false

def sameAt (R C : Nat) (s : Int) (d : List Int) (r' c' s' : Int) (d' : List Int) : Prop := ∀ i, i < R → ∀ k, k < C → at4 R C s d i k = at4 r' c' s' d' i k
instance (R C : Nat) (s : Int) (d : List Int) (r' c' s' : Int) (d' : List Int) : Decidable (sameAt R C s d r' c' s' d') := by unfold sameAt; exact inferInstance
theorem same_yes_l1 {R C : Nat} {r' c' s s' : Int} (h : Sm R C s) (h' : Sm r' c' s') (d d' : List Int) {b : Bool} {i : Nat} (hi : i < R)
    (hk : Ev (fun K => mat_Matrix_Same.l0 K R ((i : Int) + 1) R C s d r' c' s' d') b) (hs : ∀ k, k < C → at4 R C s d i k = at4 r' c' s' d' i k) :
    ∀ n k : Nat, C - k = n → k ≤ C → Ev (fun K => mat_Matrix_Same.l1 K i R i C k R C s d r' c' s' d') b := by
  obtain ⟨h1, h2, h3⟩ := id h
  intro n
  induction n with
  | zero =>
    intro k e1 e2
    obtain rfl : k = C := by omega
    refine Ev.succ ?_
    simp only [mat_Matrix_Same.l1]
    refine Ev.neg (by omega) ?_
    rw [w64 (by omega) (by omega)]
    exact hk
  | succ n ih =>
    intro k e1 e2
    refine Ev.succ ?_
    simp only [mat_Matrix_Same.l1]
    refine Ev.pos (by omega) (Ev.call (at_eq h d i k) (Ev.call (at_eq h' d' i k) (Ev.pos (hs k (by omega)) ?_)))
    rw [w64 (by omega) (by omega)]
    have := ih (k + 1) (by omega) (by omega)
    exact this
theorem same_no_l1 {R C : Nat} {r' c' s s' : Int} (h : Sm R C s) (h' : Sm r' c' s') (d d' : List Int) {i : Nat} {q : Nat} (hq : q < C) (hs : at4 R C s d i q ≠ at4 r' c' s' d' i q) :
    ∀ n k : Nat, q - k = n → k ≤ q → Ev (fun K => mat_Matrix_Same.l1 K i R i C k R C s d r' c' s' d') false := by
  obtain ⟨h1, h2, h3⟩ := id h
  intro n
  induction n with
  | zero =>
    intro k e1 e2
    obtain rfl : k = q := by omega
    refine Ev.succ ?_
    simp only [mat_Matrix_Same.l1]
    exact Ev.pos (by omega) (Ev.call (at_eq h d i k) (Ev.call (at_eq h' d' i k) (Ev.neg hs (Ev.now _))))
  | succ n ih =>
    intro k e1 e2
    refine Ev.succ ?_
    simp only [mat_Matrix_Same.l1]
    refine Ev.pos (by omega) (Ev.call (at_eq h d i k) (Ev.call (at_eq h' d' i k) ?_))
    by_cases e : at4 R C s d i k = at4 r' c' s' d' i k
    · refine Ev.pos e ?_
      rw [w64 (by omega) (by omega)]
      have := ih (k + 1) (by omega) (by omega)
      exact this
    · exact Ev.neg e (Ev.now _)
theorem same_l0 {R C : Nat} {r' c' s s' : Int} (h : Sm R C s) (h' : Sm r' c' s') (d d' : List Int) :
    ∀ n i : Nat, R - i = n → i ≤ R → Ev (fun K => mat_Matrix_Same.l0 K R i R C s d r' c' s' d') (decide (∀ j, j < R → i ≤ j → ∀ k, k < C → at4 R C s d j k = at4 r' c' s' d' j k)) := by
  obtain ⟨h1, h2, h3⟩ := id h
  intro n
  induction n with
  | zero =>
    intro i e1 e2
    refine Ev.succ ?_
    simp only [mat_Matrix_Same.l0]
    refine Ev.neg (by omega) ?_
    rw [decide_eq_true (fun j hj hij => by omega)]
    exact Ev.now _
  | succ n ih =>
    intro i e1 e2
    refine Ev.succ ?_
    simp only [mat_Matrix_Same.l0]
    refine Ev.pos (by omega) ?_
    have hrec := ih (i + 1) (by omega) (by omega)
    by_cases hs : ∀ k, k < C → at4 R C s d i k = at4 r' c' s' d' i k
    · have e : decide (∀ j, j < R → i ≤ j → ∀ k, k < C → at4 R C s d j k = at4 r' c' s' d' j k) = decide (∀ j, j < R → i + 1 ≤ j → ∀ k, k < C → at4 R C s d j k = at4 r' c' s' d' j k) := by
        rw [decide_eq_decide]
        constructor
        · intro hh j hj hij; exact hh j hj (by omega)
        · intro hh j hj hij
          by_cases ej : j = i
          · subst ej; exact hs
          · exact hh j hj (by omega)
      rw [e]
      have := same_yes_l1 h h' d d' (i := i) (by omega) hrec hs C 0 (by omega) (by omega)
      exact this
    · have hs' : ∃ q, q < C ∧ at4 R C s d i q ≠ at4 r' c' s' d' i q := by
        refine Decidable.byContradiction fun hc => hs fun k hk => Decidable.byContradiction fun he => hc ⟨k, hk, he⟩
      obtain ⟨q, hq, hne⟩ := hs'
      rw [decide_eq_false (fun hh => hne (hh i (by omega) (by omega) q hq))]
      have := same_no_l1 h h' d d' (i := i) hq hne q 0 (by omega) (by omega)
      exact this
theorem same_ev {R C : Nat} {r' c' s s' : Int} (h : Sm R C s) (h' : Sm r' c' s') (d d' : List Int) :
    Ev (fun K => mat_Matrix_Same.f K R C s d r' c' s' d') (decide ((R : Int) = r' ∧ (C : Int) = c' ∧ sameAt R C s d r' c' s' d')) := by
  unfold mat_Matrix_Same.f
  by_cases e : (R : Int) = r'
  · refine Ev.pos e ?_
    refine Ev.succ ?_
    simp only [mat_Matrix_Same.j0]
    by_cases e2 : (C : Int) = c'
    · refine Ev.neg (by simp [e2]) ?_
      have := same_l0 h h' d d' R 0 (by omega) (by omega)
      have e3 : decide ((R : Int) = r' ∧ (C : Int) = c' ∧ sameAt R C s d r' c' s' d') = decide (∀ j, j < R → 0 ≤ j → ∀ k, k < C → at4 R C s d j k = at4 r' c' s' d' j k) := by
        rw [decide_eq_decide]
        exact ⟨fun hh j hj _ => hh.2.2 j hj, fun hh => ⟨e, e2, fun j hj => hh j hj (by omega)⟩⟩
      rw [e3]
      exact this
    · refine Ev.pos (by simpa using e2) ?_
      rw [decide_eq_false (fun hh => e2 hh.2.1)]
      exact Ev.now _
  · refine Ev.neg e ?_
    refine Ev.succ ?_
    simp only [mat_Matrix_Same.j0]
    rw [decide_eq_false (fun hh => e hh.1)]
    exact Ev.pos trivial (Ev.now _)
end Gim
