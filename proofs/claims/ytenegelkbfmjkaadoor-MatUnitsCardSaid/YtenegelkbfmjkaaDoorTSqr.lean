/- Matrices and exact numbers: the sum of the squares; whether all is finite. -/
import Derived.Test.YtenegelkbfmjkaaDoorTMat
import Derived.Test.YtenegelkbfmjkaaDoorTDyE
import Derived.Test.YtenegelkbfmjkaaDoorFx9
import Derived.Test.YtenegelkbfmjkaaDoorFx6
namespace Gim
open Go Go.RowKit Go.Proofs.YtenegelkbfmjkaaDoorW.PrintWords Go.Proofs.YtenegelkbfmjkaaDoorW.PrintLast Go.Proofs.YtenegelkbfmjkaaDoorW.PrintMore Go.Proofs.YtenegelkbfmjkaaDoor.F
set_option linter.unusedVariables false
set_option linter.unusedSectionVars false

/-- What a pattern is as an exact number: of what isn't finite, nought. -/
noncomputable def dv (a : Int) : Rat := if fin a then val a else 0
theorem dv_fin {a : Int} (h : fin a) : dv a = val a := if_pos h
theorem of_dv {a E : Int} (hE : E = 1074) (ha : U a) : ∃ r l f, Ev (fun K => dyad_Of.f K a) (r, l, f, decide (fin a)) ∧ Nm E (dv a) r l f := by
  by_cases fa : fin a
  · obtain ⟨r, l, f, ev, nm⟩ := of_ev hE ha fa
    rw [decide_eq_true fa, dv_fin fa]
    exact ⟨r, l, f, ev, nm⟩
  · refine ⟨false, [], 0, ?_, ?_⟩
    · rw [decide_eq_false fa]; exact ⟨0, fun K _ => of_none ha fa K⟩
    · unfold dv; rw [if_neg fa]
      exact ⟨⟨Dig.nil, fun h => absurd rfl h, .inl ⟨rfl, rfl, rfl⟩⟩, by unfold nval; simp [nv], by omega, by simp [nv]; exact Rat.le_of_lt (pw_pos E)⟩
/-- The squares of the first n. -/
def rs (h : Nat → Rat) : Nat → Rat
  | 0 => 0
  | n + 1 => rs h n + h n * h n
/-- The squares of the first n rows. -/
def tt (g : Nat → Nat → Rat) (C : Nat) : Nat → Rat
  | 0 => 0
  | n + 1 => tt g C n + rs (g n) C
theorem rs_succ (h : Nat → Rat) (n : Nat) : rs h (n + 1) = rs h n + h n * h n := rfl
theorem tt_succ (g : Nat → Nat → Rat) (C n : Nat) : tt g C (n + 1) = tt g C n + rs (g n) C := rfl
theorem rs_zero (n : Nat) : rs (fun _ => 0) n = 0 := by
  induction n with
  | zero => rfl
  | succ n ih => rw [rs_succ, ih]; grind
theorem tt_zero (C n : Nat) : tt (fun _ _ => 0) C n = 0 := by
  induction n with
  | zero => rfl
  | succ n ih => rw [tt_succ, ih, rs_zero]; grind
theorem rs_congr {h h' : Nat → Rat} {n : Nat} (e : ∀ k, k < n → h k = h' k) : rs h n = rs h' n := by
  induction n with
  | zero => rfl
  | succ n ih => rw [rs_succ, rs_succ, ih (fun k hk => e k (by omega)), e n (by omega)]
theorem tt_congr {g g' : Nat → Nat → Rat} {C n : Nat} (e : ∀ i k, i < n → k < C → g i k = g' i k) : tt g C n = tt g' C n := by
  induction n with
  | zero => rfl
  | succ n ih => rw [tt_succ, tt_succ, ih (fun i k hi hk => e i k (by omega) hk), rs_congr (fun k hk => e n k (by omega) hk)]
theorem Nm.nought {E : Int} (hE : 0 ≤ E) : Nm E 0 false [] 0 :=
  ⟨⟨Dig.nil, fun h => absurd rfl h, .inl ⟨rfl, rfl, rfl⟩⟩, by unfold nval; simp [nv], by omega, by simp [nv]; exact Rat.le_of_lt (pw_pos E)⟩

section
variable {R C : Nat} {s : Int} {d : List Int} (hR : R ≤ 100) (hC : C ≤ 100) (hs : s ≤ 1099511627776) (hu : ∀ x ∈ d, U x) {E : Int} (hE : E = 1074)
include hR hC hs hu hE
theorem square_l1 {i : Nat} (hi : i < R) {A : Rat} {Q : Bool × List Int × Int → Prop} {B : Int} (hB : 2 * E ≤ B) (hB2 : B ≤ 100000)
    (next : ∀ r l f, Nm (B + C) (A + rs (fun k => dv (at4 R C s d i k)) C) r l f → ∃ ρ, Ev (fun K => mat_Matrix_Square.l0 K R ((i + 1 : Nat) : Int) R C s d r l f) ρ ∧ Q ρ) :
    ∀ t k : Nat, C - k = t → k ≤ C → ∀ r l f, Nm (B + k) (A + rs (fun k => dv (at4 R C s d i k)) k) r l f → ∃ ρ, Ev (fun K => mat_Matrix_Square.l1 K i R i C k R C s d r l f) ρ ∧ Q ρ := by
  intro t
  induction t with
  | zero =>
    intro k h1 h2 r l f hn
    obtain rfl : k = C := by omega
    obtain ⟨ρ, ev, q⟩ := next r l f hn
    refine ⟨ρ, Ev.succ ?_, q⟩
    simp only [mat_Matrix_Square.l1]
    rw [w64 (x := (i : Int) + 1) (by omega) (by omega)]
    exact Ev.neg (by omega) ev
  | succ t ih =>
    intro k h1 h2 r l f hn
    have hk : k < C := by omega
    obtain ⟨r1, l1, f1, ev1, nm1⟩ := of_dv hE (at_U (r := R) (c := C) (s := s) hu i k)
    obtain ⟨r2, l2, f2, ev2, nm2⟩ := num_mul_ev (by omega) (by omega) (by omega) (by omega) nm1 nm1
    obtain ⟨r3, l3, f3, ev3, nm3⟩ := num_add_ev (E := B + k) (by omega) (by omega) hn (nm2.mono (by omega))
    have e1 : A + rs (fun k => dv (at4 R C s d i k)) k + dv (at4 R C s d i k) * dv (at4 R C s d i k) = A + rs (fun k => dv (at4 R C s d i k)) (k + 1) := by rw [rs_succ]; grind
    have e2 : B + (k : Int) + 1 = B + ((k + 1 : Nat) : Int) := by omega
    rw [e1, e2] at nm3
    obtain ⟨ρ, ev, q⟩ := ih (k + 1) (by omega) (by omega) _ _ _ nm3
    refine ⟨ρ, Ev.succ ?_, q⟩
    simp only [mat_Matrix_Square.l1]
    rw [w64 (x := (k : Int) + 1) (by omega) (by omega)]
    exact Ev.pos (by omega) (Ev.call (at_eq ⟨by omega, by omega, by omega⟩ _ _ _) (Ev.bind ev1 (Ev.bind ev2 (Ev.bind ev3 ev))))
theorem square_l0 : ∀ t i : Nat, R - i = t → i ≤ R → ∀ r l f, Nm (2 * E + (i * C : Nat)) (tt (fun i k => dv (at4 R C s d i k)) C i) r l f → ∃ r' l' f', Ev (fun K => mat_Matrix_Square.l0 K R i R C s d r l f) (r', l', f') ∧ Nm (2 * E + (R * C : Nat)) (tt (fun i k => dv (at4 R C s d i k)) C R) r' l' f' := by
  intro t
  induction t with
  | zero =>
    intro i h1 h2 r l f hn
    obtain rfl : i = R := by omega
    refine ⟨r, l, f, Ev.succ ?_, hn⟩
    simp only [mat_Matrix_Square.l0]
    exact Ev.neg (by omega) (Ev.now _)
  | succ t ih =>
    intro i h1 h2 r l f hn
    have hi : i < R := by omega
    have hb : i * C ≤ 100 * 100 := Nat.mul_le_mul (by omega) hC
    obtain ⟨⟨r', l', f'⟩, ev, q⟩ := square_l1 hR hC hs hu hE hi (A := tt (fun i k => dv (at4 R C s d i k)) C i) (B := 2 * E + (i * C : Nat)) (Q := fun ρ => Nm (2 * E + (R * C : Nat)) (tt (fun i k => dv (at4 R C s d i k)) C R) ρ.1 ρ.2.1 ρ.2.2) (by omega) (by omega)
      (fun r l f hn => by
        have e2 : 2 * E + ((i * C : Nat) : Int) + (C : Int) = 2 * E + (((i + 1) * C : Nat) : Int) := by rw [Nat.add_mul]; omega
        rw [e2, ← tt_succ] at hn
        obtain ⟨r', l', f', ev, q⟩ := ih (i + 1) (by omega) (by omega) r l f hn
        exact ⟨(r', l', f'), ev, q⟩) C 0 (by omega) (by omega) r l f (by
        have e3 : tt (fun i k => dv (at4 R C s d i k)) C i + rs (fun k => dv (at4 R C s d i k)) 0 = tt (fun i k => dv (at4 R C s d i k)) C i := by unfold rs; grind
        rw [e3]; exact hn.mono (by omega))
    refine ⟨r', l', f', Ev.succ ?_, q⟩
    simp only [mat_Matrix_Square.l0]
    exact Ev.pos (by omega) ev
/-- The sum of the squares. -/
theorem square_ev : ∃ r l f, Ev (fun K => mat_Matrix_Square.f K R C s d) (r, l, f) ∧ Nm (2 * E + (R * C : Nat)) (tt (fun i k => dv (at4 R C s d i k)) C R) r l f := by
  unfold mat_Matrix_Square.f
  exact square_l0 hR hC hs hu hE R 0 (by omega) (by omega) false [] 0 (Nm.nought (by omega))
theorem finite_l1 {i : Nat} (hi : i < R) {nb : Bool} (next : Ev (fun K => mat_Matrix_Finite.l0 K R ((i + 1 : Nat) : Int) R C s d) nb) :
    ∀ t k : Nat, C - k = t → k ≤ C → ∃ b, Ev (fun K => mat_Matrix_Finite.l1 K i R i C k R C s d) b ∧ (b = true ↔ (∀ j : Nat, k ≤ j → j < C → fin (at4 R C s d i j)) ∧ nb = true) := by
  intro t
  induction t with
  | zero =>
    intro k h1 h2
    refine ⟨nb, Ev.succ ?_, ?_⟩
    · simp only [mat_Matrix_Finite.l1]
      rw [w64 (x := (i : Int) + 1) (by omega) (by omega)]
      exact Ev.neg (by omega) next
    · exact ⟨fun h => ⟨fun j h3 h4 => by omega, h⟩, fun h => h.2⟩
  | succ t ih =>
    intro k h1 h2
    have u := at_U (r := R) (c := C) (s := s) hu i k
    by_cases fi : fin (at4 R C s d i k)
    · obtain ⟨b, ev, hb⟩ := ih (k + 1) (by omega) (by omega)
      refine ⟨b, Ev.succ ?_, ?_⟩
      · simp only [mat_Matrix_Finite.l1]
        rw [w64 (x := (k : Int) + 1) (by omega) (by omega)]
        exact Ev.pos (by omega) (Ev.call (at_eq ⟨by omega, by omega, by omega⟩ _ _ _) (Ev.call (word_Finite_eq u) (Ev.pos (decide_eq_true fi) ev)))
      · rw [hb]
        constructor
        · rintro ⟨h3, h4⟩
          refine ⟨fun j h5 h6 => ?_, h4⟩
          by_cases e : j = k
          · subst e; exact fi
          · exact h3 j (by omega) h6
        · rintro ⟨h3, h4⟩
          exact ⟨fun j h5 h6 => h3 j (by omega) h6, h4⟩
    · refine ⟨false, Ev.succ ?_, ?_⟩
      · simp only [mat_Matrix_Finite.l1]
        exact Ev.pos (by omega) (Ev.call (at_eq ⟨by omega, by omega, by omega⟩ _ _ _) (Ev.call (word_Finite_eq u) (Ev.neg (by rw [decide_eq_false fi]; decide) (Ev.now _))))
      · constructor
        · intro h; cases h
        · intro h; exact absurd (h.1 k (Nat.le_refl _) (by omega)) fi
theorem finite_l0 : ∀ t i : Nat, R - i = t → i ≤ R → ∃ b, Ev (fun K => mat_Matrix_Finite.l0 K R i R C s d) b ∧ (b = true ↔ ∀ j k : Nat, i ≤ j → j < R → k < C → fin (at4 R C s d j k)) := by
  intro t
  induction t with
  | zero =>
    intro i h1 h2
    refine ⟨true, Ev.succ ?_, ⟨fun _ j k h3 h4 => by omega, fun _ => rfl⟩⟩
    simp only [mat_Matrix_Finite.l0]
    exact Ev.neg (by omega) (Ev.now _)
  | succ t ih =>
    intro i h1 h2
    obtain ⟨nb, ev, hn⟩ := ih (i + 1) (by omega) (by omega)
    obtain ⟨b, ev2, hb⟩ := finite_l1 hR hC hs hu hE (i := i) (by omega) ev C 0 (by omega) (by omega)
    refine ⟨b, Ev.succ ?_, ?_⟩
    · simp only [mat_Matrix_Finite.l0]
      exact Ev.pos (by omega) ev2
    · rw [hb, hn]
      constructor
      · rintro ⟨h3, h4⟩ j k h5 h6 h7
        by_cases e : j = i
        · subst e; exact h3 k (by omega) h7
        · exact h4 j k (by omega) h6 h7
      · intro h
        exact ⟨fun j h5 h6 => h i j (Nat.le_refl _) (by omega) h6, fun j k h5 h6 h7 => h j k (by omega) h6 h7⟩
/-- Whether all is finite. -/
theorem finite_ev : ∃ b, Ev (fun K => mat_Matrix_Finite.f K R C s d) b ∧ (b = true ↔ ∀ j k : Nat, j < R → k < C → fin (at4 R C s d j k)) := by
  unfold mat_Matrix_Finite.f
  obtain ⟨b, ev, hb⟩ := finite_l0 hR hC hs hu hE R 0 (by omega) (by omega)
  exact ⟨b, ev, hb.trans ⟨fun h j k h1 h2 => h j k (by omega) h1 h2, fun h j k _ h1 h2 => h j k h1 h2⟩⟩
end
end Gim
