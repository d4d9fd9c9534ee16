/- Whole numbers: sums, differences and products of small ones are exact. -/
import Derived.Test.YtnjobojkoaknpaaDoorTKeep
import Derived.Test.YtnjobojkoaknpaaDoorTTriN
namespace Gim
open Go Go.RowKit Go.Proofs.YtnjobojkoaknpaaDoorW.PrintWords Go.Proofs.YtnjobojkoaknpaaDoorW.PrintLast Go.Proofs.YtnjobojkoaknpaaDoorW.PrintMore Go.Proofs.YtnjobojkoaknpaaDoor.F
set_option linter.unusedVariables false

theorem vm_53 : vm 4845873199050653696 = ((9007199254740992 : Int) : Rat) := by
  have a1 : mant 4845873199050653696 = 4503599627370496 := by decide
  have a2 : expo 4845873199050653696 = 1 := by decide
  unfold vm
  rw [a1, a2, pw_one]
  decide +kernel
theorem whole_ex {k : Int} (h0 : k ≠ 0) (h1 : -9007199254740992 ≤ k) (h2 : k ≤ 9007199254740992) : ∃ a, U a ∧ fin a ∧ val a = (k : Rat) := by
  obtain ⟨m, hm, v⟩ := repr_exists (D := if k < 0 then -k else k) (G := 0) (by split <;> omega) (by split <;> omega) (by decide)
  rw [pw_zero, Rat.mul_one] at v
  have ml : m ≤ 4845873199050653696 := by
    rw [← vm_le_iff (by omega) (by decide), v, vm_53]
    exact Rat.intCast_le_intCast.mpr (by split <;> omega)
  refine ⟨signed (decide (k < 0)) m, U_signed (by omega) (by omega), ?_, ?_⟩
  · unfold fin INF
    rw [mag_signed (by omega) (by omega)]
    omega
  · rw [val_signed (by omega) (by omega), v]
    by_cases c : k < 0
    · rw [if_pos (by simpa using c), if_pos c]
      push_cast
      grind
    · rw [if_neg (by simpa using c), if_neg c]
/-- A whole number's pattern, whichever sign a nought has; and one whose nought is plus. -/
def Isz (a k : Int) : Prop := U a ∧ fin a ∧ val a = (k : Rat)
def Is (a k : Int) : Prop := Isz a k ∧ (k = 0 → a = 0)
theorem Isz.ne {a k : Int} (h : Isz a k) (hk : k ≠ 0) : mag a ≠ 0 := by
  intro m
  have := val_zero_iff.mpr m
  rw [h.2.2] at this
  exact hk (by exact_mod_cast this)
theorem Is.unique {a b k : Int} (ha : Is a k) (hb : Is b k) : a = b := by
  by_cases c : k = 0
  · rw [ha.2 c, hb.2 c]
  · have r1 := Rd.self ha.1.1 ha.1.2.1 (ha.1.ne c) true
    have r2 := Rd.self hb.1.1 hb.1.2.1 (hb.1.ne c) true
    rw [ha.1.2.2] at r1
    rw [hb.1.2.2] at r2
    exact (r1.unique r2).1
theorem cast_ne {k : Int} (h : k ≠ 0) : (k : Rat) ≠ 0 := fun e => h (by exact_mod_cast e)
theorem mul_whole {a b j k : Int} (ha : Isz a j) (hb : Isz b k) (h1 : -9007199254740992 ≤ j * k) (h2 : j * k ≤ 9007199254740992) : Isz (mv a b) (j * k) := by
  have R := mv_Rd ha.1 hb.1 ha.2.1 hb.2.1
  have hx : val a * val b = ((j * k : Int) : Rat) := by rw [ha.2.2, hb.2.2]; push_cast; rfl
  by_cases c : j * k = 0
  · have e := (R.zero (by rw [hx, c]; rfl)).1
    refine ⟨mv_U ha.1 hb.1, fin_of_mag (by rw [e]; exact mag_zero_signed _), ?_⟩
    rw [val_zero_iff.mpr (by rw [e]; exact mag_zero_signed _), c]
    rfl
  · obtain ⟨p, up, fp, vp⟩ := whole_ex c h1 h2
    have e := (R.of_exact up fp (by rw [vp, hx])).2 (by rw [hx]; exact cast_ne c)
    rw [e]
    exact ⟨up, fp, vp⟩
theorem val_neg {a : Int} (hs : neg a = true) : val a ≤ 0 := by
  unfold val
  rw [hs]
  have := vm_nonneg (m := mag a) mag_lt.1
  simp only [if_true]
  grind
theorem add_whole {a b j k : Int} (ha : Is a j) (hb : Isz b k) (h1 : -9007199254740992 ≤ j + k) (h2 : j + k ≤ 9007199254740992) : Is (av a b) (j + k) := by
  have R := av_Rd ha.1.1 hb.1 ha.1.2.1 hb.2.1
  have hx : val a + val b = ((j + k : Int) : Rat) := by rw [ha.1.2.2, hb.2.2]; push_cast; rfl
  by_cases c : j + k = 0
  · have e := (R.zero (by rw [hx, c]; rfl)).1
    have s : (neg a && neg b) = false := by
      by_cases j0 : j = 0
      · have : neg a = false := by rw [ha.2 j0]; decide
        rw [this]; rfl
      · cases h : neg a
        · rfl
        · cases h' : neg b
          · rfl
          · exfalso
            have v1 := val_neg h
            have v2 := val_neg h'
            rw [ha.1.2.2] at v1
            rw [hb.2.2] at v2
            have w1 : j ≤ 0 := by exact_mod_cast v1
            have w2 : k ≤ 0 := by exact_mod_cast v2
            omega
    rw [s] at e
    have e2 : av a b = 0 := by rw [e]; decide
    rw [e2, c]
    exact ⟨⟨⟨by decide, by decide⟩, fin_zero, by rw [val_zero]; rfl⟩, fun _ => rfl⟩
  · obtain ⟨p, up, fp, vp⟩ := whole_ex c h1 h2
    have e := (R.of_exact up fp (by rw [vp, hx])).2 (by rw [hx]; exact cast_ne c)
    rw [e]
    exact ⟨⟨up, fp, vp⟩, fun h => absurd h c⟩
theorem sub_whole {a b j k : Int} (ha : Is a j) (hb : Isz b k) (h1 : -9007199254740992 ≤ j - k) (h2 : j - k ≤ 9007199254740992) : Is (mns a b) (j - k) := by
  have hf : Isz (flip b) (-k) := ⟨U_flip hb.1, fin_flip hb.1 hb.2.1, by rw [val_flip hb.1, hb.2.2]; push_cast; rfl⟩
  have := add_whole ha hf (by omega) (by omega)
  rw [← Int.sub_eq_add_neg] at this
  exact this
/-- What is looked at to tell a whole number. -/
def isWhole (k a : Int) : Bool := decide (0 ≤ a) && decide (a < 18446744073709551616) && decide (mag a < INF) && decide (expo (mag a) ≤ 0) && decide (mant (mag a) = (if k < 0 then -k else k) * p2 (-(expo (mag a)))) && (Gim.neg a == decide (k < 0)) && (decide (k ≠ 0) || decide (a = 0))
theorem isWhole_ok {k a : Int} (h : isWhole k a = true) : Is a k := by
  unfold isWhole at h
  simp only [Bool.and_eq_true, decide_eq_true_eq, Bool.or_eq_true, beq_iff_eq] at h
  obtain ⟨⟨⟨⟨⟨⟨h1, h2⟩, h3⟩, h4⟩, h5⟩, h6⟩, h7⟩ := h
  refine ⟨⟨⟨h1, h2⟩, h3, ?_⟩, fun e => h7.resolve_left (fun h => h e)⟩
  have v : vm (mag a) = (((if k < 0 then -k else k : Int)) : Rat) := by
    unfold vm
    rw [h5]
    push_cast
    rw [← pw_p2 (by omega), Rat.mul_assoc, pw_neg_mul, Rat.mul_one]
  unfold val
  rw [h6, v]
  by_cases c : k < 0
  · rw [if_pos (by simpa using c), if_pos c]; push_cast; grind
  · rw [if_neg (by simpa using c), if_neg c]
end Gim
