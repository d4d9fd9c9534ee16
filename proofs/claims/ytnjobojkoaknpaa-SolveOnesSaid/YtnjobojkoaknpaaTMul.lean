/- What soft.Mul answers: the product of two numbers, rounded. -/
import Derived.Test.YtnjobojkoaknpaaTNan
import Derived.Test.YtnjobojkoaknpaaTWMul
import Derived.Test.YtnjobojkoaknpaaFx7
namespace Gim
open Go Go.RowKit Go.Proofs.YtnjobojkoaknpaaW.PrintWords Go.Proofs.YtnjobojkoaknpaaW.PrintLast Go.Proofs.YtnjobojkoaknpaaW.PrintMore Go.Proofs.Ytnjobojkoaknpaa.F
set_option linter.unusedVariables false
theorem mul_nan {a b : Int} (ha : U a) (hb : U b) (h : (isNan a || isNan b) = true) : Ev (fun k => soft_Mul.f k a b) (QNAN, nanF a b) := by
  unfold soft_Mul.f
  refine Ev.bind (soft_nan2 ha hb) ?_
  exact Ev.pos h (Ev.now _)
/-- Infinity times zero? -/
def infZero (a b : Int) : Bool := (decide (mag a = INF) && decide (mag b = 0)) || (decide (mag a = 0) && decide (mag b = INF))
theorem mul_kinds {a b : Int} (ha : U a) (hb : U b) (h : (isNan a || isNan b) = false) {r : Int × Int}
    (hk : Ev (fun k => soft_Mul.j0 k a b (neg a != neg b) (kindOf (mag a)) (kindOf (mag b)) (infZero a b)) r) : Ev (fun k => soft_Mul.f k a b) r := by
  unfold soft_Mul.f
  refine Ev.bind (soft_nan2 ha hb) (Ev.neg (by simp only [h]; decide) (Ev.call (word_Neg_eq ha) (Ev.call (word_Neg_eq hb) (Ev.bind (word_Kind_ev ha) (Ev.bind (word_Kind_ev hb) ?_)))))
  rw [kind_mag, kind_mag, neg_def, neg_def]
  have kz : ∀ c : Int, (kindOf (mag c) == 4) = decide (mag c = INF) := fun c => by
    rw [Bool.eq_iff_iff]; simp only [beq_iff_eq, decide_eq_true_eq]; exact kind_inf
  have I0 : (INF : Int) ≠ 0 := by decide
  rw [kz]
  by_cases c1 : kindOf (mag a) = 4
  · have m1 := kind_inf.mp c1
    have n1 : ¬ kindOf (mag a) = 1 := by rw [c1]; decide
    by_cases c2 : kindOf (mag b) = 1
    · have m2 := kind_zero.mp c2
      have e : infZero a b = true := by unfold infZero; rw [m1, m2]; decide
      rw [e] at hk
      exact Ev.pos c1 (Ev.pos c2 hk)
    · have m2 : mag b ≠ 0 := fun h => c2 (kind_zero.mpr h)
      have e : infZero a b = false := by unfold infZero; rw [m1]; simp [m2, I0]
      rw [e] at hk
      exact Ev.pos c1 (Ev.neg c2 (Ev.neg n1 hk))
  · have m1 : mag a ≠ INF := fun h => c1 (kind_inf.mpr h)
    by_cases c2 : kindOf (mag a) = 1
    · have m2 := kind_zero.mp c2
      have e : infZero a b = decide (mag b = INF) := by unfold infZero; rw [m2]; simp [Ne.symm I0]
      rw [e] at hk
      exact Ev.neg c1 (Ev.pos c2 hk)
    · have m2 : mag a ≠ 0 := fun h => c2 (kind_zero.mpr h)
      have e : infZero a b = false := by unfold infZero; simp [m1, m2]
      rw [e] at hk
      exact Ev.neg c1 (Ev.neg c2 hk)
theorem mul_infzero {a b : Int} (ha : U a) (hb : U b) (h : infZero a b = true) : Ev (fun k => soft_Mul.f k a b) (QNAN, 16) := by
  refine mul_kinds ha hb ?_ ?_
  · unfold infZero at h
    have h0 : isNan a = false ∧ isNan b = false := by
      unfold isNan INF at *
      simp at h ⊢
      omega
    rw [h0.1, h0.2]; rfl
  · refine Ev.succ ?_
    simp only [soft_Mul.j0]
    exact Ev.pos h (Ev.now _)
theorem mul_inf {a b : Int} (ha : U a) (hb : U b) (h0 : (isNan a || isNan b) = false) (h1 : mag a = INF ∨ mag b = INF) (h2 : infZero a b = false) : Ev (fun k => soft_Mul.f k a b) (signed (neg a != neg b) INF, 0) := by
  refine mul_kinds ha hb h0 (Ev.succ ?_)
  simp only [soft_Mul.j0]
  refine Ev.neg (by rw [h2]; decide) ?_
  by_cases c : kindOf (mag a) = 4
  · exact Ev.pos c (Ev.call (make_inf _) (Ev.now _))
  · refine Ev.neg c (Ev.pos (kind_inf.mpr (by rcases h1 with h | h; exact absurd (kind_inf.mpr h) c; exact h)) (Ev.call (make_inf _) (Ev.now _)))
/-- MUL: of two numbers. -/
theorem mul_fin {a b : Int} (ha : U a) (hb : U b) (fa : fin a) (fb : fin b) : ∃ r f, Ev (fun k => soft_Mul.f k a b) (r, f) ∧ Rd (val a * val b) (neg a != neg b) r f := by
  have ka : kindOf (mag a) ≠ 4 := fun h => by have := kind_inf.mp h; unfold fin at fa; omega
  have kb : kindOf (mag b) ≠ 4 := fun h => by have := kind_inf.mp h; unfold fin at fb; omega
  have iz : infZero a b = false := by
    have h1 : mag a ≠ INF := fun h => ka (kind_inf.mpr h)
    have h2 : mag b ≠ INF := fun h => kb (kind_inf.mpr h)
    unfold infZero; simp [h1, h2]
  obtain ⟨M, E, pa, m0, m1, e0, e1, va, za⟩ := Parts_fin ha fa
  obtain ⟨N, G, pb, n0, n1, g0, g1, vb, zb⟩ := Parts_fin hb fb
  obtain ⟨h, l, ew, u1, u2, ev⟩ := wide_Mul_eq (a := M) (b := N) ⟨m0, by omega⟩ ⟨n0, by omega⟩
  have hx : rabs (val a * val b) = ((M * N : Int) : Rat) * pw (E + G) := by
    have e : rabs (val a * val b) = vm (mag a) * vm (mag b) := by
      have p1 := vm_nonneg (mag_lt (a := a)).1
      have p2 := vm_nonneg (mag_lt (a := b)).1
      have p3 := Rat.mul_nonneg p1 p2
      rw [val_eq a, val_eq b]
      unfold rabs
      cases neg a <;> cases neg b <;> simp <;> grind
    rw [e, va, vb, pw_add]; push_cast; grind
  have start : ∀ rf : Int × Int, Ev (fun k => round_Round.f k (neg a != neg b) h l (E + G) false) rf → Ev (fun k => soft_Mul.f k a b) rf := by
    intro rf hr
    refine mul_kinds ha hb (by rw [fin_nan fa, fin_nan fb]; rfl) (Ev.succ ?_)
    simp only [soft_Mul.j0]
    refine Ev.neg (by rw [iz]; decide) (Ev.neg ka (Ev.neg kb (Ev.bind pa (Ev.bind pb (Ev.call ew ?_)))))
    dsimp only
    rw [w64 (x := E + G) (by omega) (by omega)]
    exact Ev.bind hr (Ev.now _)
  by_cases z : M * N = 0
  · rw [z] at ev hx
    have hl := wv_inj u1 u2 U_0 U_0 (by rw [ev]; rfl)
    obtain ⟨rfl, rfl⟩ := hl
    refine ⟨_, _, start _ (round_Round_zero _ _), ⟨fun _ => ⟨rfl, rfl⟩, fun hne => absurd ?_ hne⟩⟩
    have : rabs (val a * val b) = 0 := by rw [hx]; grind
    unfold rabs at this; grind
  · have hpos : 0 < M * N := by have := Int.mul_nonneg m0 n0; omega
    obtain ⟨m, f, er, rb⟩ := round_Round_ev (neg a != neg b) u1 u2 (E := E + G) (by omega) (by omega) false (x := rabs (val a * val b)) (by rw [ev]; exact hpos)
      (fun _ => by rw [ev]; exact hx) (fun h => by cases h)
    have hne : val a * val b ≠ 0 := by
      intro h0
      have h1 : rabs (val a * val b) = 0 := by rw [h0]; rfl
      rw [hx] at h1
      have : (0 : Int) * pw (E + G) < ((M * N : Int) : Rat) * pw (E + G) := mul_pw_lt.mpr hpos
      rw [h1] at this
      grind
    refine ⟨_, _, start _ er, ⟨fun h0 => absurd h0 hne, fun _ => ⟨m, rb, ?_⟩⟩⟩
    congr 1
    have p1 : 0 < vm (mag a) := by
      have : mag a ≠ 0 := fun hz => by rw [za.mpr hz] at hpos; omega
      exact vm_pos (by have := (mag_lt (a := a)).1; omega)
    have p2 : 0 < vm (mag b) := by
      have : mag b ≠ 0 := fun hz => by rw [zb.mpr hz] at hpos; omega
      exact vm_pos (by have := (mag_lt (a := b)).1; omega)
    have p3 := Rat.mul_pos p1 p2
    rw [val_eq a, val_eq b]
    cases neg a <;> cases neg b <;> simp <;> grind
def MulR (a b r f : Int) : Prop :=
  if (isNan a || isNan b) = true then r = QNAN ∧ f = nanF a b
  else if infZero a b = true then r = QNAN ∧ f = 16
  else if mag a = INF ∨ mag b = INF then r = signed (neg a != neg b) INF ∧ f = 0
  else Rd (val a * val b) (neg a != neg b) r f
theorem mul_ev {a b : Int} (ha : U a) (hb : U b) : ∃ r f, Ev (fun k => soft_Mul.f k a b) (r, f) ∧ MulR a b r f := by
  unfold MulR
  by_cases h : (isNan a || isNan b) = true
  · exact ⟨_, _, mul_nan ha hb h, by rw [if_pos h]; exact ⟨rfl, rfl⟩⟩
  · obtain ⟨h0, na, nb⟩ := nan_or h
    by_cases iz : infZero a b = true
    · exact ⟨_, _, mul_infzero ha hb iz, by rw [if_neg h, if_pos iz]; exact ⟨rfl, rfl⟩⟩
    · by_cases i : mag a = INF ∨ mag b = INF
      · exact ⟨_, _, mul_inf ha hb h0 i (by simpa using iz), by rw [if_neg h, if_neg iz, if_pos i]; exact ⟨rfl, rfl⟩⟩
      · obtain ⟨r, f, ev, rd⟩ := mul_fin ha hb (fin_of na (fun h => i (.inl h))) (fin_of nb (fun h => i (.inr h)))
        exact ⟨r, f, ev, by rw [if_neg h, if_neg iz, if_neg i]; exact rd⟩
theorem MulR.unique {a b r f r' f' : Int} (h : MulR a b r f) (h' : MulR a b r' f') : r = r' ∧ f = f' := by
  unfold MulR at h h'
  by_cases c1 : (isNan a || isNan b) = true
  · rw [if_pos c1] at h h'; omega
  · rw [if_neg c1] at h h'
    by_cases c2 : infZero a b = true
    · rw [if_pos c2] at h h'; omega
    · rw [if_neg c2] at h h'
      by_cases c3 : mag a = INF ∨ mag b = INF
      · rw [if_pos c3] at h h'; omega
      · rw [if_neg c3] at h h'; exact h.unique h'
theorem infZero_comm (a b : Int) : infZero a b = infZero b a := by
  unfold infZero
  rw [Bool.or_comm, Bool.and_comm (decide (mag a = 0)), Bool.and_comm (decide (mag a = INF))]
theorem MulR.comm {a b r f : Int} (h : MulR a b r f) : MulR b a r f := by
  unfold MulR at h ⊢
  have e : (neg b != neg a) = (neg a != neg b) := by cases neg a <;> cases neg b <;> rfl
  rw [Bool.or_comm (isNan b), nanF_comm b, infZero_comm b, e, show val b * val a = val a * val b from by grind]
  simp only [or_comm (a := mag b = INF)]
  exact h
theorem MulR.fin {a b r f : Int} (fa : fin a) (fb : fin b) : MulR a b r f ↔ Rd (val a * val b) (neg a != neg b) r f := by
  have : infZero a b = false := by unfold infZero; simp [not_inf fa, not_inf fb]
  unfold MulR; rw [fin_nan fa, fin_nan fb, this, if_neg (by decide), if_neg (by decide), if_neg (by rintro (h | h); exact not_inf fa h; exact not_inf fb h)]
theorem MulR.flags {a b r f : Int} (h : MulR a b r f) : 0 ≤ f ∧ f ≤ 16 := by
  have := nanF_le a b
  unfold MulR at h
  split at h
  · omega
  · split at h
    · omega
    · split at h
      · omega
      · exact h.flags
theorem MulR.range {a b r f : Int} (h : MulR a b r f) : U r := by
  unfold MulR at h
  have q : U QNAN := by unfold QNAN U; decide
  split at h
  · rw [h.1]; exact q
  · split at h
    · rw [h.1]; exact q
    · split at h
      · rw [h.1]; exact U_signed INF_lt.1 INF_lt.2
      · exact h.range.1
end Gim
