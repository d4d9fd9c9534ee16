/- No numbers, infinities; small helpers of the sums, products and quotients. -/
import Derived.Test.YtnjobojkoaknpaaTVal
namespace Gim
open Go Go.RowKit Go.Proofs.YtnjobojkoaknpaaW.PrintWords Go.Proofs.YtnjobojkoaknpaaW.PrintLast Go.Proofs.YtnjobojkoaknpaaW.PrintMore Go.Proofs.Ytnjobojkoaknpaa.F
set_option linter.unusedVariables false

theorem U_0 : U 0 := ⟨by decide, by decide⟩
theorem U_1 : U 1 := ⟨by decide, by decide⟩
def isNan (a : Int) : Bool := decide (INF < mag a)
def QNAN : Int := 9221120237041090560
def nanF (a b : Int) : Int := if signals a || signals b then 16 else 0

theorem kind_mag (a : Int) : kindOf (a % 9223372036854775808) = kindOf (mag a) := rfl
theorem kind_nan {a : Int} : kindOf (mag a) = 5 ↔ isNan a = true := by rw [kind5 mag_lt.1]; unfold isNan INF; simp
theorem kind_inf {a : Int} : kindOf (mag a) = 4 ↔ mag a = INF := kind4 mag_lt.1
theorem kind_zero {a : Int} : kindOf (mag a) = 1 ↔ mag a = 0 := kind1
theorem signals_nan {a : Int} (h : signals a = true) : isNan a = true := by unfold signals at h; unfold isNan INF mag; simp at h ⊢; exact h.1
theorem fin_nan {a : Int} (h : fin a) : isNan a = false := by unfold fin at h; unfold isNan; simp; omega
theorem fin_signals {a : Int} (h : fin a) : signals a = false := by
  cases hs : signals a
  · rfl
  · have := signals_nan hs; rw [fin_nan h] at this; cases this

theorem rd_cons0 (a : Int) (l : List Int) : rd (a :: l) 0 = a := rfl
theorem rd_cons1 (a b : Int) (l : List Int) : rd (a :: b :: l) 1 = b := rfl

theorem expo_mono {m m' : Int} (h0 : 0 ≤ m) (h : m ≤ m') : expo m ≤ expo m' := by unfold expo; grind
theorem fin_expo {a : Int} (h : fin a) : -1074 ≤ expo (mag a) ∧ expo (mag a) ≤ 971 := by
  have h0 := (mag_lt (a := a)).1
  unfold fin INF at h
  unfold expo
  split <;> omega
theorem wl64 {m : Int} (h0 : 0 ≤ m) (h1 : m < 18446744073709551616) : wide_Wide_Left.f 0 m 64 = some (m, 0) := by
  obtain ⟨a, b, e, u1, u2, ev⟩ := wide_Left_eq (h := 0) (l := m) (n := 64) U_0 ⟨h0, h1⟩ (by decide)
  rw [e]
  have : wv m 0 = wv a b := by
    rw [ev, p2_64]
    unfold wv; omega
  obtain ⟨rfl, rfl⟩ := wv_inj ⟨h0, h1⟩ U_0 u1 u2 this
  rfl

/-- Signs and magnitudes of a sum. -/
theorem val_eq (a : Int) : val a = (if neg a then -1 else 1) * vm (mag a) := by unfold val; cases neg a <;> simp <;> grind


theorem neg_def (a : Int) : decide (9223372036854775808 ≤ a) = neg a := rfl
theorem make_inf (s : Bool) : word_Make.f s 2047 0 = some (signed s INF) := by
  rw [word_Make_eq s (by decide) (by decide) U_0]; rfl
/-- What Parts answers of a number, zero or not. -/
theorem Parts_fin {a : Int} (ha : U a) (fa : fin a) : ∃ m e, Ev (fun k => word_Parts.f k a) (m, e) ∧ 0 ≤ m ∧ m < 9007199254740992 ∧ -1074 ≤ e ∧ e ≤ 971 ∧ vm (mag a) = (m : Rat) * pw e ∧ (m = 0 ↔ mag a = 0) := by
  have h0 := (mag_lt (a := a)).1
  by_cases z : mag a = 0
  · refine ⟨0, 0, word_Parts_none ha (.inl z), by decide, by decide, by decide, by decide, ?_, by simp [z]⟩
    rw [z, vm_zero]; grind
  · have := fin_expo fa
    have hp := mant_pos (m := mag a) (by omega)
    exact ⟨mant (mag a), expo (mag a), word_Parts_ev ha (show 0 < mag a by omega) fa, by omega, mant_lt, this.1, this.2, rfl, by constructor <;> intro h <;> omega⟩
theorem nan_or {a b : Int} (h : ¬ (isNan a || isNan b) = true) : (isNan a || isNan b) = false ∧ isNan a = false ∧ isNan b = false := by
  cases h1 : isNan a <;> cases h2 : isNan b <;> rw [h1, h2] at h <;> simp at h ⊢
theorem fin_of {a : Int} (h1 : isNan a = false) (h2 : mag a ≠ INF) : fin a := by
  unfold isNan at h1; unfold fin; simp at h1; omega
theorem not_inf {a : Int} (h : fin a) : mag a ≠ INF := by unfold fin at h; omega
theorem nanF_comm (a b : Int) : nanF a b = nanF b a := by unfold nanF; rw [Bool.or_comm]
/-- The flags are small. -/
theorem RB.flags {x : Rat} {b f : Int} (h : RB x b f) : 0 ≤ f ∧ f ≤ 16 := by
  obtain ⟨q, n, _, _, rfl⟩ := h.ex
  split
  · split
    · omega
    · split <;> omega
  · omega
theorem Rd.flags {x : Rat} {z : Bool} {r f : Int} (h : Rd x z r f) : 0 ≤ f ∧ f ≤ 16 := by
  by_cases hx : x = 0
  · have := (h.zero hx).2; omega
  · obtain ⟨m, rb, _⟩ := h.num hx; exact rb.flags
theorem nanF_le (a b : Int) : 0 ≤ nanF a b ∧ nanF a b ≤ 16 := by unfold nanF; split <;> omega

theorem INF_lt : 0 ≤ INF ∧ INF < 9223372036854775808 := by decide
def sgd (s : Bool) (X : Int) : Int := if s then -X else X
theorem Rd.any {x : Rat} {z z' : Bool} {r f : Int} (h : Rd x z r f) (hx : x ≠ 0) : Rd x z' r f := ⟨fun h => absurd h hx, h.num⟩
theorem int_pw_neg {S E : Int} : (S : Rat) * pw E < 0 ↔ S < 0 := by
  have := mul_pw_lt (a := S) (b := 0) (e := E)
  rw [← this]; simp
theorem int_pw_zero {S E : Int} : (S : Rat) * pw E = 0 ↔ S = 0 := by
  constructor
  · intro h; exact mul_pw_inj (a := S) (b := 0) (e := E) (by rw [h]; simp)
  · intro h; rw [h]; simp
theorem rabs_sgd (s : Bool) {X E : Int} (hX : 0 ≤ X) : rabs ((sgd s X : Rat) * pw E) = (X : Rat) * pw E := by
  have h0 : 0 ≤ (X : Rat) * pw E := by have := mul_pw_le (a := 0) (b := X) (e := E); simpa using this.mpr hX
  have e1 : rabs ((X : Rat) * pw E) = (X : Rat) * pw E := by unfold rabs; rw [if_neg (by grind)]
  unfold sgd
  cases s
  · exact e1
  · show rabs (((-X : Int) : Rat) * pw E) = _
    have e2 : ((-X : Int) : Rat) * pw E = -((X : Rat) * pw E) := by push_cast; grind
    rw [e2, rabs_neg, e1]
theorem sgd_mul (s t : Bool) (X Y : Int) : sgd s X * sgd t Y = sgd (s != t) (X * Y) := by
  unfold sgd; cases s <;> cases t <;> simp <;> grind
/-- The parts as the reference's Mul and Div take them. -/
theorem val_mant (a : Int) : val a = (sgd (neg a) (mant (mag a)) : Rat) * pw (expo (mag a)) := by
  rw [val_eq]; unfold vm sgd; cases neg a <;> simp <;> grind
theorem mant_U (a : Int) : U (mant (mag a)) := ⟨mant_nonneg mag_lt.1, by have := mant_lt (m := mag a); omega⟩
theorem mant_blen (a : Int) : blen (mant (mag a)) ≤ 53 := blen_le (by decide) (by rw [show p2 53 = 9007199254740992 from by decide]; exact mant_lt)
theorem make_zero (s : Bool) : word_Make.f s 0 0 = some (signed s 0) := by
  rw [word_Make_eq s (by decide) (by decide) U_0]; rfl
end Gim
