/- Products of two words. -/
import Derived.Test.YtnjobojkoaknpaaTWide
import Derived.Test.YtnjobojkoaknpaaFx6
namespace Gim
open Go Go.RowKit Go.Proofs.YtnjobojkoaknpaaW.PrintWords Go.Proofs.YtnjobojkoaknpaaW.PrintLast Go.Proofs.YtnjobojkoaknpaaW.PrintMore Go.Proofs.Ytnjobojkoaknpaa.F
set_option linter.unusedVariables false


theorem bits_Mul64_eq {a b : Int} (ha : U a) (hb : U b) : bits_Mul64.f a b = some (a * b / 18446744073709551616, a * b % 18446744073709551616) := by
  have ha' := ha
  have hb' := hb
  obtain ⟨a0, a1⟩ := ha
  obtain ⟨b0, b1⟩ := hb
  unfold bits_Mul64.f
  rw [u64_and32 a0 a1, u64_and32 b0 b1]
  have hA : 0 ≤ a / 4294967296 ∧ a / 4294967296 ≤ 4294967295 := by omega
  have hB : 0 ≤ b / 4294967296 ∧ b / 4294967296 ≤ 4294967295 := by omega
  have hC : 0 ≤ a % 4294967296 ∧ a % 4294967296 ≤ 4294967295 := by omega
  have hD : 0 ≤ b % 4294967296 ∧ b % 4294967296 ≤ 4294967295 := by omega
  have e : a * b = (a / 4294967296 * (b / 4294967296)) * 18446744073709551616 + (a / 4294967296 * (b % 4294967296) + a % 4294967296 * (b / 4294967296)) * 4294967296 + a % 4294967296 * (b % 4294967296) := by
    have e1 : a = a / 4294967296 * 4294967296 + a % 4294967296 := by omega
    have e2 : b = b / 4294967296 * 4294967296 + b % 4294967296 := by omega
    generalize a / 4294967296 = x at *
    generalize a % 4294967296 = y at *
    generalize b / 4294967296 = z at *
    generalize b % 4294967296 = w at *
    subst e1 e2
    grind
  obtain ⟨p0, p1⟩ := mul_bound hA.1 hB.1 hA.2 hB.2
  obtain ⟨q0, q1⟩ := mul_bound hA.1 hD.1 hA.2 hD.2
  obtain ⟨r0, r1⟩ := mul_bound hC.1 hB.1 hC.2 hB.2
  obtain ⟨s0, s1⟩ := mul_bound hC.1 hD.1 hC.2 hD.2
  have hm : a * b < 340282366920938463463374607431768211456 := by
    have := (mul_bound a0 b0 (show a ≤ 18446744073709551615 by omega) (show b ≤ 18446744073709551615 by omega)).2
    omega
  have hm0 : 0 ≤ a * b := Int.mul_nonneg a0 b0
  rw [wu64_mod (a * b)]
  generalize a * b = X at *
  generalize a / 4294967296 * (b / 4294967296) = P at *
  generalize a / 4294967296 * (b % 4294967296) = Q at *
  generalize a % 4294967296 * (b / 4294967296) = R at *
  generalize a % 4294967296 * (b % 4294967296) = S at *
  rw [wu64 (x := S) (by omega) (by omega), wu64 (x := Q) (by omega) (by omega), wu64 (x := Q + S / 4294967296) (by omega) (by omega), u64_and32 (by omega) (by omega),
    wu64 (x := R) (by omega) (by omega), wu64 (x := P) (by omega) (by omega), wu64 (x := P + (Q + S / 4294967296) / 4294967296) (by omega) (by omega),
    wu64 (x := (Q + S / 4294967296) % 4294967296 + R) (by omega) (by omega), wu64 (by omega) (by omega)]
  congr 2
  omega
theorem wide_Mul_eq {a b : Int} (ha : U a) (hb : U b) : ∃ h l, wide_Mul.f a b = some (h, l) ∧ U h ∧ U l ∧ wv h l = a * b := by
  unfold wide_Mul.f
  rw [bits_Mul64_eq ha hb]
  obtain ⟨a0, a1⟩ := ha
  obtain ⟨b0, b1⟩ := hb
  have hm : a * b < 340282366920938463463374607431768211456 := by
    have := (mul_bound a0 b0 (show a ≤ 18446744073709551615 by omega) (show b ≤ 18446744073709551615 by omega)).2
    omega
  have hm0 : 0 ≤ a * b := Int.mul_nonneg a0 b0
  simp only [Option.bind_some]
  generalize a * b = X at *
  exact ⟨_, _, rfl, ⟨by omega, by omega⟩, ⟨by omega, by omega⟩, by unfold wv; omega⟩

end Gim
