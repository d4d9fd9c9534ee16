/- Sums and products of finite numbers as values; what a nought or a one changes. -/
import Derived.Test.YtnjobojkoaknpaaTAv
import Derived.Test.YtnjobojkoaknpaaTDot
namespace Gim
open Go Go.RowKit Go.Proofs.YtnjobojkoaknpaaW.PrintWords Go.Proofs.YtnjobojkoaknpaaW.PrintLast Go.Proofs.YtnjobojkoaknpaaW.PrintMore Go.Proofs.Ytnjobojkoaknpaa.F
set_option linter.unusedVariables false

theorem keep {a : Int} (ha : U a) (fa : fin a) {x : Rat} {z : Bool} {r f : Int} (h : Rd x z r f) (hx : x = val a) (hz : mag a = 0 → z = neg a) : r = a ∧ f = 0 := by
  by_cases h0 : mag a = 0
  · have hx0 : x = 0 := by rw [hx]; exact val_zero_iff.mpr h0
    obtain ⟨e, hf⟩ := h.zero hx0
    refine ⟨?_, hf⟩
    rw [e, hz h0]
    have := signed_eta ha
    rw [h0] at this
    exact this
  · subst hx
    have := h.unique (Rd.self ha fa h0 z)
    exact this
theorem mulRd {a b r f : Int} (fa : fin a) (fb : fin b) (h : MulR a b r f) : Rd (val a * val b) (neg a != neg b) r f := by
  unfold MulR at h
  have n1 := not_inf fa
  have n2 := not_inf fb
  have hz : infZero a b = false := by unfold infZero; simp [n1, n2]
  rw [if_neg (by rw [fin_nan fa, fin_nan fb]; decide), if_neg (by rw [hz]; decide), if_neg (by rintro (h | h) <;> contradiction)] at h
  exact h
theorem addRd {a b r f : Int} (fa : fin a) (fb : fin b) (h : AddR a b r f) : Rd (val a + val b) (neg a && neg b) r f := (AddR.fin fa fb).mp h
theorem mv_Rd {a b : Int} (ha : U a) (hb : U b) (fa : fin a) (fb : fin b) : Rd (val a * val b) (neg a != neg b) (mv a b) (mP a b).2 := mulRd fa fb (mP_R ha hb)
theorem av_Rd {a b : Int} (ha : U a) (hb : U b) (fa : fin a) (fb : fin b) : Rd (val a + val b) (neg a && neg b) (av a b) (aP a b).2 := addRd fa fb (aP_R ha hb)
theorem mv_comm {a b : Int} (ha : U a) (hb : U b) : mv a b = mv b a := ((mP_R ha hb).unique (MulR.comm (mP_R hb ha))).1
theorem U_zero_ : U 0 := ⟨by decide, by decide⟩
theorem fin_zero : fin 0 := by decide
theorem val_zero : val 0 = 0 := val_zero_iff.mpr (by decide)
theorem mag_zero_signed (s : Bool) : mag (signed s 0) = 0 := mag_signed (by decide) (by decide)
theorem fin_of_mag {a : Int} (h : mag a = 0) : fin a := by unfold fin; rw [h]; decide
/-- A product with a nought is a nought. -/
theorem mv_nought {a b : Int} (ha : U a) (hb : U b) (fa : fin a) (fb : fin b) (h : mag a = 0 ∨ mag b = 0) : mag (mv a b) = 0 := by
  have R := mv_Rd ha hb fa fb
  have hx : val a * val b = 0 := by
    rcases h with h | h
    · rw [val_zero_iff.mpr h]; grind
    · rw [val_zero_iff.mpr h]; grind
  rw [(R.zero hx).1]
  exact mag_zero_signed _
/-- A nought and another one: plus, unless both are minus. -/
theorem av_zero {b : Int} (hb : U b) (h : mag b = 0) : av 0 b = 0 := by
  have R := av_Rd U_zero_ hb fin_zero (fin_of_mag h)
  have hx : val 0 + val b = 0 := by rw [val_zero, val_zero_iff.mpr h]; grind
  have e : (neg 0 && neg b) = false := by have : neg 0 = false := by decide
                                          rw [this]; rfl
  rw [(R.zero hx).1, e]
  decide
theorem av_to {b : Int} (hb : U b) (fb : fin b) (h : mag b ≠ 0) : av 0 b = b := by
  have R := av_Rd U_zero_ hb fin_zero fb
  exact (keep hb fb R (by rw [val_zero]; grind) (fun h2 => absurd h2 h)).1
theorem av_nought {a b : Int} (ha : U a) (hb : U b) (fa : fin a) (h : mag a ≠ 0) (h0 : mag b = 0) : av a b = a := by
  have R := av_Rd ha hb fa (fin_of_mag h0)
  exact (keep ha fa R (by rw [val_zero_iff.mpr h0]; grind) (fun h2 => absurd h2 h)).1
theorem dS_congr {x y x' y' : Nat → Int} : ∀ n, (∀ j, j < n → mv (x j) (y j) = mv (x' j) (y' j)) → dS x y n = dS x' y' n
  | 0, _ => rfl
  | n + 1, H => by simp only [dS]; rw [dS_congr n (fun j hj => H j (by omega)), H n (by omega)]
/-- A sum of products of which all but one are noughts. -/
theorem dS_one {x y : Nat → Int} {a : Int} (ha : U a) (fa : fin a) {i : Nat} (hi : mv (x i) (y i) = a) : ∀ n, (∀ j, j < n → j ≠ i → U (mv (x j) (y j)) ∧ mag (mv (x j) (y j)) = 0) → dS x y n = if i < n ∧ mag a ≠ 0 then a else 0
  | 0, _ => by rw [if_neg (by omega)]; rfl
  | n + 1, H => by
    simp only [dS]
    rw [dS_one ha fa hi n (fun j hj => H j (by omega))]
    by_cases c : n = i
    · subst c
      rw [if_neg (by omega), hi]
      by_cases m : mag a = 0
      · rw [if_neg (by simp [m]), av_zero ha m]
      · rw [if_pos ⟨by omega, m⟩, av_to ha fa m]
    · obtain ⟨u, z⟩ := H n (by omega) c
      by_cases c2 : i < n ∧ mag a ≠ 0
      · rw [if_pos c2, if_pos ⟨by omega, c2.2⟩, av_nought ha u fa c2.2 z]
      · rw [if_neg c2, av_zero u z, if_neg]
        rintro ⟨h1, h2⟩
        exact c2 ⟨by omega, h2⟩
end Gim
