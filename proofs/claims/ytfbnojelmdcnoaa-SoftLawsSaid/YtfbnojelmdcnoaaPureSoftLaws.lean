/- SoftLaws: sums and products don't hang on the order; what is nought, one, or turned round; for every two patterns. -/
import Derived.Test.YtfbnojelmdcnoaaTOps
import Derived.Test.YtfbnojelmdcnoaaTRep
import Derived.Test.YtfbnojelmdcnoaaFx6
import Derived.Test.YtfbnojelmdcnoaaFx18
namespace Go.Proofs.Ytfbnojelmdcnoaa.Pure
open Gim Go.RowKit Go.Proofs.Ytfbnojelmdcnoaa.F Go.Proofs.YtfbnojelmdcnoaaW.PrintWords Go.Proofs.YtfbnojelmdcnoaaW.PrintLast
set_option linter.unusedVariables false

theorem head_ok : gimballaw04_head.f 60 = some true := by decide +kernel
theorem head_ev : Ev (fun k => gimballaw04_head.f k) true := Ev.of (fun k => gimballaw04_head.mono k) head_ok

theorem U_one : U 4607182418800017408 := ⟨by decide, by decide⟩
theorem fin_one : fin 4607182418800017408 := by decide
theorem val_one : val 4607182418800017408 = 1 := by
  have e1 : neg 4607182418800017408 = false := by decide
  have e2 : mag 4607182418800017408 = 4607182418800017408 := by decide
  have e3 : mant 4607182418800017408 = 4503599627370496 := by decide
  have e4 : expo 4607182418800017408 = -52 := by decide
  unfold val vm
  rw [e1, e2, e3, e4, show (4503599627370496 : Int) = p2 52 from by decide, ← pw_p2 (by decide), ← pw_add]
  exact pw_zero
theorem U_m0 : U 9223372036854775808 := ⟨by decide, by decide⟩
theorem fin_m0 : fin 9223372036854775808 := by decide
theorem val_m0 : val 9223372036854775808 = 0 := val_zero_iff.mpr (by decide)

/-- What keeps its value, and its sign where it is zero, is itself. -/
theorem keep {a : Int} (ha : U a) (fa : fin a) {x : Rat} {z : Bool} {r f : Int} (h : Rd x z r f) (hx : x = val a) (hz : mag a = 0 → z = neg a) : r = a ∧ f = 0 := by
  by_cases h0 : mag a = 0
  · have hx0 : x = 0 := by rw [hx]; exact val_zero_iff.mpr h0
    obtain ⟨e, hf⟩ := h.zero hx0
    refine ⟨?_, hf⟩
    rw [e, hz h0]
    have := signed_eta ha
    rw [h0] at this
    exact this
  · subst hx
    have := h.unique (Rd.self ha fa h0 z)
    exact this

theorem SoftLaws : gimballaw04_SoftLaws.Pure := by
  intro a b wa wb
  have ha := U_of_wf wa
  have hb := U_of_wf wb
  apply Ev.rounds
  unfold gimballaw04_SoftLaws.f
  obtain ⟨r1, f1, e1, R1⟩ := add_ev ha hb
  obtain ⟨r2, f2, e2, R2⟩ := add_ev hb ha
  obtain ⟨r3, f3, e3, R3⟩ := mul_ev ha hb
  obtain ⟨r4, f4, e4, R4⟩ := mul_ev hb ha
  obtain ⟨rfl, rfl⟩ := R1.unique R2.comm
  obtain ⟨rfl, rfl⟩ := R3.unique R4.comm
  refine Ev.bind head_ev (Ev.pos rfl (Ev.bind e1 (Ev.bind e2 (Ev.bind e3 (Ev.bind e4 (Ev.pos rfl (Ev.pos rfl (Ev.pos rfl ?_))))))))
  dsimp only
  rw [show (f3 != f3) = false from by simp]
  refine Ev.succ ?_
  simp only [gimballaw04_SoftLaws.j0]
  refine Ev.neg (by decide) (Ev.call (word_Finite_eq ha) ?_)
  by_cases fa : fin a
  · refine Ev.pos (decide_eq_true fa) (Ev.call (word_Flip_eq ha) ?_)
    -- a less a
    obtain ⟨n, fn, en, Rn⟩ := add_fin ha (U_flip ha) fa (fin_flip ha fa)
    have hn : n = 0 := by
      rw [val_flip ha, neg_flip ha] at Rn
      have := (Rn.zero (by grind)).1
      rw [this]; cases neg a <;> rfl
    -- a times one, a by one
    obtain ⟨m, j, em, Rm⟩ := mul_fin ha U_one fa fin_one
    rw [val_one] at Rm
    obtain ⟨rfl, rfl⟩ := keep ha fa Rm (by grind) (fun _ => by rw [show neg 4607182418800017408 = false from by decide]; simp)
    obtain ⟨d, k, ed, Rdd⟩ := div_fin ha U_one fa fin_one (by decide)
    rw [val_one] at Rdd
    obtain ⟨rfl, rfl⟩ := keep ha fa Rdd (by rw [Rat.div_def]; grind) (fun _ => by rw [show neg 4607182418800017408 = false from by decide]; simp)
    -- a and minus zero
    obtain ⟨z, l, ez, Rz⟩ := add_fin ha U_m0 fa fin_m0
    rw [val_m0] at Rz
    obtain ⟨rfl, rfl⟩ := keep ha fa Rz (by grind) (fun _ => by rw [show neg 9223372036854775808 = true from by decide]; simp)
    -- a times b, turned round
    obtain ⟨t, ft, et, Rt⟩ := mul_ev ha (U_flip hb)
    subst hn
    have last : Ev (fun k => if (0 : Int) = 0 then (if z = z then (if z = z then (if z = z then (some ((Go.bits .or .u8 (Go.bits .or .u8 0 0) 0) == 0)) else (some false)) else (some false)) else (some false)) else (some false)) true :=
      Ev.pos rfl (Ev.pos rfl (Ev.pos rfl (Ev.pos rfl (Ev.now _))))
    refine Ev.bind en (Ev.bind em (Ev.bind ed (Ev.bind ez (Ev.call (word_Flip_eq hb) (Ev.bind et (Ev.bind (word_Kind_ev hb) ?_))))))
    rw [kind_mag]
    by_cases kn : kindOf (mag b) = 5
    · exact Ev.pos kn last
    · refine Ev.neg kn (Ev.call (word_Finite_eq hb) ?_)
      by_cases fb : fin b
      · refine Ev.pos (decide_eq_true fb) ?_
        have R3' := (MulR.fin fa fb).mp R3
        have Rt' := (MulR.fin fa (fin_flip hb fb)).mp Rt
        rw [val_flip hb, neg_flip hb] at Rt'
        have R3n := R3'.neg_
        have e : (!(neg z != neg b)) = (neg z != !neg b) := by cases neg z <;> cases neg b <;> rfl
        rw [e, show -(val z * val b) = val z * -val b from by grind] at R3n
        obtain ⟨rfl, _⟩ := Rt'.unique R3n
        exact Ev.call (word_Flip_eq R3'.range.1) (Ev.pos rfl last)
      · exact Ev.neg (by simpa using fb) last
  · exact Ev.neg (by simpa using fa) (Ev.now _)
end Go.Proofs.Ytfbnojelmdcnoaa.Pure
