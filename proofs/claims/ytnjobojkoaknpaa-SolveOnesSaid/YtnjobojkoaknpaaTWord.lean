/- What the functions of package word answer. -/
import Derived.Test.YtnjobojkoaknpaaT1
import Derived.Test.YtnjobojkoaknpaaT2
import Derived.Test.YtnjobojkoaknpaaFx5
import Derived.Test.YtnjobojkoaknpaaFx2
namespace Gim
open Go Go.RowKit Go.Proofs.YtnjobojkoaknpaaW.PrintWords Go.Proofs.YtnjobojkoaknpaaW.PrintLast Go.Proofs.YtnjobojkoaknpaaW.PrintMore Go.Proofs.Ytnjobojkoaknpaa.F
set_option linter.unusedVariables false

/-- A word of 64 bits. -/
def U (a : Int) : Prop := 0 ≤ a ∧ a < 18446744073709551616
/-- What a pattern without its sign stands for. -/
def kindOf (m : Int) : Int := if m = 0 then 1 else if m < 4503599627370496 then 2 else if m < 9218868437227405312 then 3 else if m = 9218868437227405312 then 4 else 5
def flip (a : Int) : Int := if a < 9223372036854775808 then a + 9223372036854775808 else a - 9223372036854775808

theorem word_Neg_eq {a : Int} (h : U a) : word_Neg.f a = some (decide (9223372036854775808 ≤ a)) := by
  obtain ⟨h0, h1⟩ := h
  unfold word_Neg.f
  congr 1
  rw [Bool.eq_iff_iff]
  simp
  omega
theorem word_Abs_eq {a : Int} (h : U a) : word_Abs.f a = some (a % 9223372036854775808) := by
  unfold word_Abs.f; rw [u64_top h.1 h.2]
theorem word_Exp_eq {a : Int} (h : U a) : word_Exp.f a = some (a / 4503599627370496 % 2048) := by
  obtain ⟨h0, h1⟩ := h
  unfold word_Exp.f
  rw [u64_and2047 (by omega) (by omega), w64 (by omega) (by omega)]
theorem word_Frac_eq {a : Int} (h : U a) : word_Frac.f a = some (a % 4503599627370496) := by
  unfold word_Frac.f; rw [u64_and52 h.1 h.2]
theorem kind1 {m : Int} : kindOf m = 1 ↔ m = 0 := by unfold kindOf; grind
theorem kind2 {m : Int} (h : 0 ≤ m) : kindOf m = 2 ↔ 0 < m ∧ m < 4503599627370496 := by unfold kindOf; grind
theorem kind3 {m : Int} (h : 0 ≤ m) : kindOf m = 3 ↔ 4503599627370496 ≤ m ∧ m < 9218868437227405312 := by unfold kindOf; grind
theorem kind4 {m : Int} (h : 0 ≤ m) : kindOf m = 4 ↔ m = 9218868437227405312 := by unfold kindOf; grind
theorem kind5 {m : Int} (h : 0 ≤ m) : kindOf m = 5 ↔ 9218868437227405312 < m := by unfold kindOf; grind
theorem kind_cases (m : Int) : kindOf m = 1 ∨ kindOf m = 2 ∨ kindOf m = 3 ∨ kindOf m = 4 ∨ kindOf m = 5 := by unfold kindOf; grind
theorem mag_nonneg (a : Int) : 0 ≤ a % 9223372036854775808 := by omega
theorem word_Kind_ev {a : Int} (h : U a) : Ev (fun k => word_Kind.f k a) (kindOf (a % 9223372036854775808)) := by
  have hh := h
  obtain ⟨h0, h1⟩ := h
  unfold word_Kind.f
  refine Ev.call (word_Exp_eq hh) (Ev.call (word_Frac_eq hh) ?_)
  have hm := mag_nonneg a
  by_cases hE : a / 4503599627370496 % 2048 = 0
  · refine Ev.pos hE (Ev.succ ?_)
    simp only [word_Kind.j0]
    by_cases hF : a % 4503599627370496 = 0
    · rw [kind1.mpr (by omega)]
      exact Ev.pos (by simpa using hF) (Ev.now _)
    · rw [(kind2 hm).mpr (by omega)]
      exact Ev.neg (by simpa using hF) (Ev.pos hE (Ev.now _))
  · refine Ev.neg hE (Ev.succ ?_)
    simp only [word_Kind.j0]
    refine Ev.neg (by simp) (Ev.neg hE ?_)
    by_cases hN : a / 4503599627370496 % 2048 < 2047
    · rw [(kind3 hm).mpr (by omega)]
      exact Ev.pos hN (Ev.now _)
    · refine Ev.neg hN ?_
      by_cases hF : a % 4503599627370496 = 0
      · rw [(kind4 hm).mpr (by omega)]
        exact Ev.pos hF (Ev.now _)
      · rw [(kind5 hm).mpr (by omega)]
        exact Ev.neg hF (Ev.now _)
/-- Is it no number that signals? -/
def signals (a : Int) : Bool := decide (9218868437227405312 < a % 9223372036854775808) && decide (a / 2251799813685248 % 2 = 0)
theorem word_Signals_ev {a : Int} (h : U a) : Ev (fun k => word_Signals.f k a) (signals a) := by
  have hh := h
  obtain ⟨h0, h1⟩ := h
  unfold word_Signals.f
  refine Ev.bind (word_Kind_ev hh) ?_
  have hm := mag_nonneg a
  by_cases hk : 9218868437227405312 < a % 9223372036854775808
  · refine Ev.pos ((kind5 hm).mpr hk) ?_
    rw [u64_and1 (by omega) (by omega)]
    have e : signals a = (a / 2251799813685248 % 2 == 0) := by
      unfold signals
      rw [decide_eq_true hk, Bool.true_and, Bool.eq_iff_iff]
      simp
    rw [e]
    exact Ev.now _
  · refine Ev.neg (fun hc => hk ((kind5 hm).mp hc)) ?_
    have e : signals a = false := by unfold signals; rw [decide_eq_false hk, Bool.false_and]
    rw [e]
    exact Ev.now _
/-- A number that isn't zero. -/
theorem word_Parts_ev {a : Int} (h : U a) (h1 : 0 < a % 9223372036854775808) (h2 : a % 9223372036854775808 < 9218868437227405312) :
    Ev (fun k => word_Parts.f k a) (mant (a % 9223372036854775808), expo (a % 9223372036854775808)) := by
  have hh := h
  obtain ⟨h0, h3⟩ := h
  unfold word_Parts.f
  refine Ev.bind (word_Kind_ev hh) ?_
  have hm := mag_nonneg a
  by_cases hs : a % 9223372036854775808 < 4503599627370496
  · refine Ev.pos ((kind2 hm).mpr ⟨h1, hs⟩) (Ev.call (word_Frac_eq hh) ?_)
    have e1 : mant (a % 9223372036854775808) = a % 4503599627370496 := by unfold mant; rw [if_pos hs]; omega
    have e2 : expo (a % 9223372036854775808) = -1074 := by unfold expo; rw [if_pos hs]
    rw [e1, e2]
    exact Ev.now _
  · have k3 := (kind3 hm).mpr ⟨by omega, h2⟩
    refine Ev.neg (by rw [k3]; decide) (Ev.pos k3 (Ev.call (word_Frac_eq hh) (Ev.call (word_Exp_eq hh) ?_)))
    have e1 : bits .or .u64 (a % 4503599627370496) 4503599627370496 = 4503599627370496 + a % 4503599627370496 := u64_or' 52 (by omega) (by decide) (by omega) (by omega) (by simp; omega) (by omega)
    rw [e1, w64 (by omega) (by omega)]
    have e2 : mant (a % 9223372036854775808) = 4503599627370496 + a % 4503599627370496 := by unfold mant; rw [if_neg hs]; omega
    have e3 : expo (a % 9223372036854775808) = a / 4503599627370496 % 2048 - 1075 := by unfold expo; rw [if_neg hs]; omega
    rw [e2, e3]
    exact Ev.now _
theorem word_Parts_none {a : Int} (h : U a) (h1 : a % 9223372036854775808 = 0 ∨ 9218868437227405312 ≤ a % 9223372036854775808) : Ev (fun k => word_Parts.f k a) (0, 0) := by
  have hh := h
  unfold word_Parts.f
  refine Ev.bind (word_Kind_ev hh) ?_
  have hm := mag_nonneg a
  exact Ev.neg (fun hc => by have := (kind2 hm).mp hc; omega) (Ev.neg (fun hc => by have := (kind3 hm).mp hc; omega) (Ev.now _))

def signed (neg : Bool) (m : Int) : Int := if neg then m + 9223372036854775808 else m
theorem word_Make_eq (neg : Bool) {e f : Int} (he : 0 ≤ e) (he' : e < 2048) (hf : U f) : word_Make.f neg e f = some (signed neg (e * 4503599627370496 + f % 4503599627370496)) := by
  obtain ⟨h0, h1⟩ := hf
  unfold word_Make.f signed
  have p52 : (2 : Int) ^ 52 = 4503599627370496 := by decide
  have p63 : (2 : Int) ^ 63 = 9223372036854775808 := by decide
  have e1 : IntKind.u64.wrap e = e := wu64 he (by omega)
  rw [e1, u64_and2047 he (by omega), u64_and52 h0 h1, show e % 2048 = e from by omega, wu64 (by omega) (by omega)]
  have e2 : bits .or .u64 (e * 4503599627370496) (f % 4503599627370496) = e * 4503599627370496 + f % 4503599627370496 :=
    u64_or 52 (by omega) (by rw [p52]; omega) (by omega) (by omega) (by rw [p52]; omega) (by omega)
  rw [e2]
  cases neg
  · simp
  · simp only [if_true]
    rw [u64_or' 63 (by omega) (by rw [p63]; omega) (by omega) (by omega) (by rw [p63]; omega) (by omega), Int.add_comm]
end Gim
