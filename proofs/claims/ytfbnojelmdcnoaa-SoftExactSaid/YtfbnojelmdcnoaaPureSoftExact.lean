/- SoftExact: a difference of two numbers of one sign, of which one is at most twice the other, is exact, and added again it is the first one; for every two patterns. -/
import Derived.Test.YtfbnojelmdcnoaaTAdd
import Derived.Test.YtfbnojelmdcnoaaTRep
import Derived.Test.YtfbnojelmdcnoaaFx6
import Derived.Test.YtfbnojelmdcnoaaFx16
namespace Go.Proofs.Ytfbnojelmdcnoaa.Pure
open Gim Go.RowKit Go.Proofs.Ytfbnojelmdcnoaa.F Go.Proofs.YtfbnojelmdcnoaaW.PrintWords Go.Proofs.YtfbnojelmdcnoaaW.PrintLast
set_option linter.unusedVariables false

theorem head_ok : gimballaw04_head.f 60 = some true := by decide +kernel
theorem head_ev : Ev (fun k => gimballaw04_head.f k) true := Ev.of (fun k => gimballaw04_head.mono k) head_ok

theorem exact_j1 {a b : Int} (ha : U a) (hb : U b) (fa : fin a) (fb : fin b) (hs : neg a = neg b) (hle : mag b ≤ mag a) : Ev (fun k => gimballaw04_SoftExact.j1 k a b) true := by
  obtain ⟨t, f, ev, rd⟩ := add_fin hb hb fb fb
  refine Ev.succ ?_
  simp only [gimballaw04_SoftExact.j1]
  refine Ev.bind ev ?_
  dsimp only
  have j2t : Ev (fun k => gimballaw04_SoftExact.j2 k a b true) true := by
    refine Ev.succ ?_
    simp only [gimballaw04_SoftExact.j2]
    exact Ev.pos trivial (Ev.now _)
  by_cases hf : f = 0
  · refine Ev.pos hf (Ev.call (word_Abs_eq rd.range.1) (Ev.call (word_Abs_eq ha) ?_))
    by_cases hlt : mag t < mag a
    · rw [show decide (t % 9223372036854775808 < a % 9223372036854775808) = true from decide_eq_true hlt]
      exact j2t
    · rw [show decide (t % 9223372036854775808 < a % 9223372036854775808) = false from decide_eq_false hlt]
      subst hf
      obtain ⟨vt, ft⟩ := rd.exact
      have m0 := (mag_lt (a := a)).1
      have m1 := (mag_lt (a := b)).1
      -- a is at most twice b
      have h2 : vm (mag a) ≤ 2 * vm (mag b) := by
        have h3 : vm (mag a) ≤ vm (mag t) := vm_mono m0 (by omega)
        have h4 : vm (mag t) = 2 * vm (mag b) := by
          rw [← rabs_val, vt, ← rabs_val b]
          unfold rabs; grind
        rw [← h4]; exact h3
      have hab : ∃ d, U d ∧ fin d ∧ val d = val a - val b := by
        by_cases zb : mag b = 0
        · refine ⟨a, ha, fa, ?_⟩
          rw [val_zero_iff.mpr zb]; grind
        · obtain ⟨d, d0, d1, dv⟩ := sterbenz (m := mag a) (m' := mag b) (by omega) hle h2 fa
          have hI : INF < 9223372036854775808 := by decide
          refine ⟨signed (neg a) d, U_signed d0 (by omega), by unfold fin; rw [mag_signed d0 (by omega)]; exact d1, ?_⟩
          rw [val_signed d0 (by omega), dv, val_eq a, val_eq b, ← hs]
          cases neg a <;> simp <;> grind
      obtain ⟨d, Ud, fd, vd⟩ := hab
      obtain ⟨s, g, ev2, rd2⟩ := sub_fin ha hb fa fb
      obtain ⟨hg, _⟩ := rd2.of_exact Ud fd vd
      subst hg
      obtain ⟨vs, fs⟩ := rd2.exact
      obtain ⟨u, h, ev3, rd3⟩ := add_fin rd2.range.1 hb fs fb
      have hv : val a = val s + val b := by rw [vs]; grind
      obtain ⟨hh, hu⟩ := rd3.of_exact ha fa hv
      refine Ev.succ ?_
      simp only [gimballaw04_SoftExact.j2]
      refine Ev.neg (by decide) (Ev.bind ev2 (Ev.bind ev3 (Ev.pos rfl (Ev.pos hh ?_))))
      dsimp only
      by_cases hz : val s + val b = 0
      · have ur := (rd3.zero hz).1
        have za : mag a = 0 := val_zero_iff.mp (by rw [hv]; exact hz)
        have zu : mag u = 0 := by rw [ur, mag_signed (by decide) (by decide)]
        by_cases hua : u = a
        · exact Ev.pos hua (Ev.now _)
        · refine Ev.neg hua (Ev.call (word_Abs_eq rd3.range.1) (Ev.pos zu (Ev.call (word_Abs_eq ha) ?_)))
          rw [show (a % 9223372036854775808 == 0) = true from by have : a % 9223372036854775808 = 0 := za
                                                                 simp [this]]
          exact Ev.now _
      · exact Ev.pos (hu hz) (Ev.now _)
  · exact Ev.neg hf j2t

theorem SoftExact : gimballaw04_SoftExact.Pure := by
  intro a b wa wb
  have ha := U_of_wf wa
  have hb := U_of_wf wb
  apply Ev.rounds
  unfold gimballaw04_SoftExact.f
  refine Ev.bind head_ev (Ev.pos rfl (Ev.call (word_Finite_eq ha) ?_))
  have jt : Ev (fun k => gimballaw04_SoftExact.j0 k a b true) true := by
    refine Ev.succ ?_
    simp only [gimballaw04_SoftExact.j0]
    exact Ev.pos trivial (Ev.now _)
  by_cases fa : fin a
  · refine Ev.pos (decide_eq_true fa) (Ev.call (word_Finite_eq hb) ?_)
    by_cases fb : fin b
    · refine Ev.pos (decide_eq_true fb) (Ev.call (word_Neg_eq ha) (Ev.call (word_Neg_eq hb) ?_))
      by_cases hs : neg a = neg b
      · have e : (decide (9223372036854775808 ≤ a) != decide (9223372036854775808 ≤ b)) = false := by
          have : decide (9223372036854775808 ≤ a) = decide (9223372036854775808 ≤ b) := hs
          rw [this]; simp
        rw [e]
        refine Ev.succ ?_
        simp only [gimballaw04_SoftExact.j0]
        refine Ev.neg (by decide) (Ev.call (word_Abs_eq ha) (Ev.call (word_Abs_eq hb) ?_))
        by_cases hlt : mag a < mag b
        · exact Ev.pos hlt (exact_j1 hb ha fb fa hs.symm (by omega))
        · exact Ev.neg hlt (exact_j1 ha hb fa fb hs (by omega))
      · have e : (decide (9223372036854775808 ≤ a) != decide (9223372036854775808 ≤ b)) = true := by
          have : ¬ decide (9223372036854775808 ≤ a) = decide (9223372036854775808 ≤ b) := hs
          simp only [bne_iff_ne]; exact this
        rw [e]
        exact jt
    · exact Ev.neg (by simpa using fb) jt
  · exact Ev.neg (by simpa using fa) jt
end Go.Proofs.Ytfbnojelmdcnoaa.Pure
