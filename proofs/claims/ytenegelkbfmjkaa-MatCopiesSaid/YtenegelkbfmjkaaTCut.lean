/- So many rows and columns of a matrix, from some on. -/
import Derived.Test.YtenegelkbfmjkaaTCheck
import Derived.Test.YtenegelkbfmjkaaFx7
namespace Gim
open Go Go.RowKit Go.Proofs.YtenegelkbfmjkaaW.PrintWords Go.Proofs.YtenegelkbfmjkaaW.PrintLast Go.Proofs.YtenegelkbfmjkaaW.PrintMore Go.Proofs.Ytenegelkbfmjkaa.F
set_option linter.unusedVariables false

/-- What stands in a matrix, from a place on. -/
def atC (r c s : Int) (d : List Int) (i k : Int) (x y : Nat) : Int := at4 r c s d (i + x) (k + y)
/-- What can be cut out. -/
def cutOk (r c s : Int) (d : List Int) (i k p q : Int) : Prop := isMat r c s d ∧ 0 ≤ i ∧ 0 ≤ k ∧ 0 ≤ p ∧ 0 ≤ q ∧ i + p ≤ r ∧ k + q ≤ c
theorem cut_l1 {r c s : Int} (h : Sm r c s) (d : List Int) {i k : Int} (i0 : 0 ≤ i) (i1 : i ≤ 4096) (k0 : 0 ≤ k) (k1 : k ≤ 4096) {P Q : Nat} (hP : P ≤ 4096) (hQ : Q ≤ 4096) {ρ : Int × Int × Int × List Int × Int} {x : Nat} (hx : x < P)
    (hk : Ev (fun K => mat_Matrix_Cut.l0 K i k Q P ((x : Int) + 1) r c s d P Q Q (part P Q (atC r c s d i k) ((x + 1) * Q))) ρ) :
    ∀ n y : Nat, Q - y = n → y ≤ Q → Ev (fun K => mat_Matrix_Cut.l1 K i k Q x P x Q y r c s d P Q Q (part P Q (atC r c s d i k) (x * Q + y))) ρ := by
  intro n
  induction n with
  | zero =>
    intro y h1 h2
    obtain rfl : y = Q := by omega
    refine Ev.succ ?_
    simp only [mat_Matrix_Cut.l1]
    refine Ev.neg (by omega) ?_
    rw [w64 (by omega) (by omega), row_end]
    exact hk
  | succ n ih =>
    intro y h1 h2
    refine Ev.succ ?_
    simp only [mat_Matrix_Cut.l1]
    refine Ev.pos (by omega) ?_
    rw [w64 (x := i + (x : Int)) (by omega) (by omega), w64 (x := k + (y : Int)) (by omega) (by omega)]
    refine Ev.call (at_eq h d (i + x) (k + y)) (Ev.call (set_eq (Sm.nat hP hQ) _ x y _) ?_)
    rw [w64 (by omega) (by omega), show at4 r c s d (i + x) (k + y) = atC r c s d i k x y from rfl, set_part hx (by omega)]
    have := ih (y + 1) (by omega) (by omega)
    exact this
theorem cut_l0 {r c s : Int} (h : Sm r c s) (d : List Int) {i k : Int} (i0 : 0 ≤ i) (i1 : i ≤ 4096) (k0 : 0 ≤ k) (k1 : k ≤ 4096) {P Q : Nat} (hP : P ≤ 4096) (hQ : Q ≤ 4096) :
    ∀ n x : Nat, P - x = n → x ≤ P → Ev (fun K => mat_Matrix_Cut.l0 K i k Q P x r c s d P Q Q (part P Q (atC r c s d i k) (x * Q))) ((P : Int), (Q : Int), (Q : Int), gat P Q (atC r c s d i k), 0) := by
  intro n
  induction n with
  | zero =>
    intro x h1 h2
    obtain rfl : x = P := by omega
    refine Ev.succ ?_
    simp only [mat_Matrix_Cut.l0]
    refine Ev.neg (by omega) ?_
    rw [part_full]
    exact Ev.now _
  | succ n ih =>
    intro x h1 h2
    refine Ev.succ ?_
    simp only [mat_Matrix_Cut.l0]
    refine Ev.pos (by omega) ?_
    have := cut_l1 h d i0 i1 k0 k1 hP hQ (ρ := ((P : Int), (Q : Int), (Q : Int), gat P Q (atC r c s d i k), 0)) (x := x) (by omega) (ih (x + 1) (by omega) (by omega)) Q 0 (by omega) (by omega)
    exact this
theorem cut_ok {r c s : Int} {d : List Int} {i k : Int} {P Q : Nat} (h : cutOk r c s d i k P Q) :
    Ev (fun K => mat_Matrix_Cut.f K r c s d i k P Q) ((P : Int), (Q : Int), (Q : Int), gat P Q (atC r c s d i k), 0) := by
  obtain ⟨hm, i0, k0, p0, q0, hi, hk⟩ := h
  have hb := hm.1
  unfold badSize at hb
  have hc := check_ev r c s d
  rw [if_pos hm] at hc
  unfold mat_Matrix_Cut.f
  refine Ev.bind hc (Ev.pos rfl (Ev.neg (by omega) (Ev.neg (by omega) (Ev.neg (by omega) (Ev.neg (by omega) ?_)))))
  rw [w64 (x := r - (P : Int)) (by omega) (by omega), w64 (x := c - (Q : Int)) (by omega) (by omega)]
  refine Ev.neg (by omega) ?_
  rw [decide_eq_false (by omega)]
  refine Ev.succ ?_
  simp only [mat_Matrix_Cut.j0]
  refine Ev.neg (by decide) (Ev.call (new_eq (by omega) (by omega)) ?_)
  have := cut_l0 (r := r) (c := c) (s := s) ⟨by omega, by omega, by omega⟩ d i0 (by omega) k0 (by omega) (P := P) (Q := Q) (by omega) (by omega) P 0 (by omega) (by omega)
  rw [Nat.zero_mul, part_zero] at this
  exact this
theorem cut_j0_true (i k p q r c s : Int) (d : List Int) : Ev (fun K => mat_Matrix_Cut.j0 K i k p q true r c s d) (0, 0, 0, [], 4) := by
  refine Ev.succ ?_
  simp only [mat_Matrix_Cut.j0]
  exact Ev.pos trivial (Ev.now _)
theorem cut_no {r c s : Int} {d : List Int} {i k p q : Int} (hp : p ≤ 9223372036854775807) (hq : q ≤ 9223372036854775807) (h : ¬ cutOk r c s d i k p q) :
    Ev (fun K => mat_Matrix_Cut.f K r c s d i k p q) (0, 0, 0, [], 4) := by
  have hc := check_ev r c s d
  unfold mat_Matrix_Cut.f
  by_cases hm : isMat r c s d
  · rw [if_pos hm] at hc
    have hb := hm.1
    unfold badSize at hb
    have h' : ¬ (0 ≤ i ∧ 0 ≤ k ∧ 0 ≤ p ∧ 0 ≤ q ∧ i + p ≤ r ∧ k + q ≤ c) := fun hh => h ⟨hm, hh⟩
    refine Ev.bind hc (Ev.pos rfl ?_)
    by_cases h1 : i < 0
    · exact Ev.pos h1 (cut_j0_true ..)
    · refine Ev.neg h1 ?_
      by_cases h2 : k < 0
      · exact Ev.pos h2 (cut_j0_true ..)
      · refine Ev.neg h2 ?_
        by_cases h3 : p < 0
        · exact Ev.pos h3 (cut_j0_true ..)
        · refine Ev.neg h3 ?_
          by_cases h4 : q < 0
          · exact Ev.pos h4 (cut_j0_true ..)
          · refine Ev.neg h4 ?_
            rw [w64 (x := r - p) (by omega) (by omega), w64 (x := c - q) (by omega) (by omega)]
            by_cases h5 : i > r - p
            · exact Ev.pos h5 (cut_j0_true ..)
            · refine Ev.neg h5 ?_
              rw [decide_eq_true (by omega)]
              exact cut_j0_true ..
  · rw [if_neg hm] at hc
    exact Ev.bind hc (Ev.neg (by decide) (cut_j0_true ..))
end Gim
