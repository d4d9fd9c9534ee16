/- Words of the machine as whole numbers: wraps, masks, shifts; and proofs of what a printed function answers from some number of rounds on. -/
import Derived.Test.YtnjobojkoaknpaaT1
import Derived.Test.YtnjobojkoaknpaaWordsMore
import Derived.Laws.BitsLemmas
namespace Gim
open Go Go.RowKit Go.Proofs.YtnjobojkoaknpaaW.PrintWords Go.Proofs.YtnjobojkoaknpaaW.PrintLast Go.Proofs.YtnjobojkoaknpaaW.PrintMore
set_option linter.unusedVariables false

theorem w64 {x : Int} (h1 : -9223372036854775808 ≤ x) (h2 : x ≤ 9223372036854775807) : wrap64 x = x := by unfold wrap64; omega
theorem wu64 {x : Int} (h1 : 0 ≤ x) (h2 : x < 18446744073709551616) : IntKind.u64.wrap x = x := by
  simp [IntKind.wrap, IntKind.bits, IntKind.signed]; omega
theorem wu64_mod (x : Int) : IntKind.u64.wrap x = x % 18446744073709551616 := by
  simp [IntKind.wrap, IntKind.bits, IntKind.signed]
theorem wraps_u64 (n : Int) (h₀ : 0 ≤ n) (h₁ : n < 2 ^ 64) : IntKind.u64.wrap n = n := wu64 h₀ (by simpa using h₁)
theorem wraps_i64 (n : Int) (h₀ : 0 ≤ n) (h₁ : n < 2 ^ 63) : IntKind.i64.wrap n = n := by
  rw [IntKind.wrap_i64]; have : n < 9223372036854775808 := by simpa using h₁
  omega
theorem i64_wrap_eq (x : Int) : IntKind.i64.wrap x = wrap64 x := by rw [IntKind.wrap_i64]; unfold wrap64; rfl

theorem u64_and (i : Nat) (hi : i ≤ 64) {x : Int} (h₀ : 0 ≤ x) (h₁ : x < 18446744073709551616) : bits .and .u64 x (2 ^ i - 1) = x % 2 ^ i :=
  bits_mask .u64 64 (by decide) wraps_u64 i hi x h₀ (by simpa using h₁)
theorem u64_and1 {x : Int} (h₀ : 0 ≤ x) (h₁ : x < 18446744073709551616) : bits .and .u64 x 1 = x % 2 := u64_and 1 (by decide) h₀ h₁
theorem u64_and2047 {x : Int} (h₀ : 0 ≤ x) (h₁ : x < 18446744073709551616) : bits .and .u64 x 2047 = x % 2048 := u64_and 11 (by decide) h₀ h₁
theorem u64_and52 {x : Int} (h₀ : 0 ≤ x) (h₁ : x < 18446744073709551616) : bits .and .u64 x 4503599627370495 = x % 4503599627370496 := u64_and 52 (by decide) h₀ h₁
theorem u64_and32 {x : Int} (h₀ : 0 ≤ x) (h₁ : x < 18446744073709551616) : bits .and .u64 x 4294967295 = x % 4294967296 := u64_and 32 (by decide) h₀ h₁
theorem u64_or (i : Nat) {x y : Int} (hx₀ : 0 ≤ x) (hx : x % 2 ^ i = 0) (hx₁ : x < 18446744073709551616) (hy₀ : 0 ≤ y) (hy : y < 2 ^ i) (hy₁ : y < 18446744073709551616) : bits .or .u64 x y = x + y :=
  bits_join .u64 64 (by decide) wraps_u64 i x y hx₀ hx (by simpa using hx₁) hy₀ hy (by simpa using hy₁)
theorem bits_or_comm (k : IntKind) (x y : Int) : bits .or k x y = bits .or k y x := by
  unfold bits
  simp [BitVec.or_comm]
theorem u64_or' (i : Nat) {x y : Int} (hx₀ : 0 ≤ x) (hx : x % 2 ^ i = 0) (hx₁ : x < 18446744073709551616) (hy₀ : 0 ≤ y) (hy : y < 2 ^ i) (hy₁ : y < 18446744073709551616) : bits .or .u64 y x = x + y := by
  rw [bits_or_comm]; exact u64_or i hx₀ hx hx₁ hy₀ hy hy₁
theorem u64_or_zero {x y : Int} (hx₀ : 0 ≤ x) (hx₁ : x < 18446744073709551616) (hy₀ : 0 ≤ y) (hy₁ : y < 18446744073709551616) : (bits .or .u64 x y == 0) = (x == 0 && y == 0) := by
  obtain ⟨a, rfl⟩ := Int.eq_ofNat_of_zero_le hx₀
  obtain ⟨b, rfl⟩ := Int.eq_ofNat_of_zero_le hy₀
  rw [(bits_nat .u64 64 (by decide) wraps_u64 a b (by omega) (by omega)).2]
  rw [Bool.eq_iff_iff]
  simp [Nat.or_eq_zero_iff]
theorem u64_top {x : Int} (h₀ : 0 ≤ x) (h₁ : x < 18446744073709551616) : bits .andNot .u64 x 9223372036854775808 = x % 9223372036854775808 := by
  have e : bits .andNot .u64 x 9223372036854775808 = bits .and .u64 x (2 ^ 63 - 1) := by
    unfold bits
    simp only []
    congr 3
  rw [e, u64_and 63 (by decide) h₀ h₁]
  rfl
theorem u64_xor {x : Int} (h₀ : 0 ≤ x) (h₁ : x < 18446744073709551616) : bits .xor .u64 x 9223372036854775808 = if x < 9223372036854775808 then x + 9223372036854775808 else x - 9223372036854775808 := by
  obtain ⟨a, rfl⟩ := Int.eq_ofNat_of_zero_le h₀
  have e : bits .xor .u64 (a : Int) 9223372036854775808 = IntKind.u64.wrap ((a ^^^ 9223372036854775808 : Nat) : Int) := by
    have e0 : bits .xor .u64 (a : Int) 9223372036854775808 = IntKind.u64.wrap ((BitVec.ofInt 64 (a : Int) ^^^ BitVec.ofInt 64 9223372036854775808).toNat : Int) := rfl
    rw [e0, BitVec.toNat_xor, BitVec.ofInt_natCast, BitVec.toNat_ofNat, show a % 2 ^ 64 = a from Nat.mod_eq_of_lt (by omega)]
    rfl
  have k : (a ^^^ 9223372036854775808 : Nat) = if a < 9223372036854775808 then a + 9223372036854775808 else a - 9223372036854775808 := by
    split
    · rename_i hc
      have := Nat.two_pow_add_eq_or_of_lt (i := 63) (b := a) (by omega) 1
      have h2 : (9223372036854775808 : Nat) ^^^ a = 9223372036854775808 ||| a := by
        apply Nat.eq_of_testBit_eq
        intro i
        simp only [Nat.testBit_xor, Nat.testBit_or]
        by_cases hi : i = 63
        · subst hi
          have : a.testBit 63 = false := Nat.testBit_lt_two_pow (by omega)
          simp [this]
        · have : (9223372036854775808 : Nat).testBit i = false := by
            have : (9223372036854775808 : Nat) = 2 ^ 63 := by decide
            rw [this, Nat.testBit_two_pow]
            simp; omega
          simp [this]
      rw [Nat.xor_comm, h2]
      have h3 : (2 ^ 63 * 1 : Nat) = 9223372036854775808 := by decide
      rw [h3] at this
      omega
    · rename_i hc
      obtain ⟨b, rfl, hb⟩ : ∃ b, a = 9223372036854775808 + b ∧ b < 9223372036854775808 := ⟨a - 9223372036854775808, by omega, by omega⟩
      have := Nat.two_pow_add_eq_or_of_lt (i := 63) (b := b) (by omega) 1
      have h4 : (2 ^ 63 * 1 : Nat) = 9223372036854775808 := by decide
      rw [h4] at this
      have h2 : (9223372036854775808 : Nat) + b = 9223372036854775808 ||| b := by omega
      have h3 : (9223372036854775808 ||| b) ^^^ 9223372036854775808 = b := by
        apply Nat.eq_of_testBit_eq
        intro i
        simp only [Nat.testBit_xor, Nat.testBit_or]
        by_cases hi : i = 63
        · subst hi
          have h0 : b.testBit 63 = false := Nat.testBit_lt_two_pow (by omega)
          have h1 : (9223372036854775808 : Nat).testBit 63 = true := by decide
          simp [h0, h1]
        · have : (9223372036854775808 : Nat).testBit i = false := by
            have : (9223372036854775808 : Nat) = 2 ^ 63 := by decide
            rw [this, Nat.testBit_two_pow]
            simp; omega
          simp [this]
      rw [h2, h3]; omega
  rw [e, k]
  split
  · rw [wu64 (by omega) (by omega)]; split <;> omega
  · rw [wu64 (by omega) (by omega)]; split <;> omega
theorem i64_and (i : Nat) (hi : i ≤ 62) (x : Int) : bits .and .i64 x (2 ^ i - 1) = x % 2 ^ i := by
  have hpos : 0 < 2 ^ i := Nat.two_pow_pos i
  have hle : 2 ^ i ≤ 2 ^ 62 := Nat.pow_le_pow_right (by decide) hi
  have hc : ((2 : Int) ^ i - 1) = ((2 ^ i - 1 : Nat) : Int) := by
    rw [Int.natCast_sub hpos]; simp
  have e : bits .and .i64 x (2 ^ i - 1) = IntKind.i64.wrap (((x % 18446744073709551616).toNat % 2 ^ i : Nat) : Int) := by
    rw [hc]
    have e0 : bits .and .i64 x ((2 ^ i - 1 : Nat) : Int) = IntKind.i64.wrap ((BitVec.ofInt 64 x &&& BitVec.ofInt 64 ((2 ^ i - 1 : Nat) : Int)).toNat : Int) := rfl
    rw [e0, BitVec.toNat_and, BitVec.ofInt_natCast, BitVec.toNat_ofNat, BitVec.toNat_ofInt,
      Nat.mod_eq_of_lt (a := 2 ^ i - 1) (by have : 2 ^ 62 < 2 ^ 64 := by decide
                                            omega), Nat.and_two_pow_sub_one_eq_mod]
    rfl
  have hb : ((x % 18446744073709551616).toNat % 2 ^ i : Nat) < 2 ^ 62 := Nat.lt_of_lt_of_le (Nat.mod_lt _ hpos) hle
  have hb' : ((x % 18446744073709551616).toNat % 2 ^ i : Nat) < 4611686018427387904 := hb
  rw [e, wraps_i64 _ (by omega) (by omega)]
  have hm : 0 ≤ x % 18446744073709551616 := by omega
  have hp : ((2 ^ i : Nat) : Int) = 2 ^ i := by simp
  rw [Int.natCast_emod, Int.toNat_of_nonneg hm, hp]
  refine Int.emod_emod_of_dvd x ⟨2 ^ (64 - i), ?_⟩
  rw [← Int.pow_add, show i + (64 - i) = 64 from by omega]
  rfl

/-- From some number of rounds on. -/
theorem Ev.succ {α : Type} {g : Nat → Option α} {r : α} (h : Ev (fun k => g (k + 1)) r) : Ev g r := by
  obtain ⟨K, hK⟩ := h
  exact ⟨K + 1, fun k hk => by obtain ⟨j, rfl⟩ : ∃ j, k = j + 1 := ⟨k - 1, by omega⟩; exact hK j (by omega)⟩
theorem Ev.pos {α : Type} {c : Prop} [Decidable c] {a b : Nat → Option α} {r : α} (h : c) (k : Ev a r) : Ev (fun n => if c then a n else b n) r := by
  obtain ⟨K, hK⟩ := k
  exact ⟨K, fun n hn => by show (if c then a n else b n) = some r; rw [if_pos h]; exact hK n hn⟩
theorem Ev.neg {α : Type} {c : Prop} [Decidable c] {a b : Nat → Option α} {r : α} (h : ¬ c) (k : Ev b r) : Ev (fun n => if c then a n else b n) r := by
  obtain ⟨K, hK⟩ := k
  exact ⟨K, fun n hn => by show (if c then a n else b n) = some r; rw [if_neg h]; exact hK n hn⟩
theorem Ev.call {α β : Type} {g : Option α} {f : Nat → α → Option β} {a : α} {r : β} (h : g = some a) (k : Ev (fun n => f n a) r) : Ev (fun n => g.bind (f n)) r := by
  obtain ⟨K, hK⟩ := k
  exact ⟨K, fun n hn => by show g.bind (f n) = some r; rw [h]; exact hK n hn⟩
theorem Ev.same {α : Type} {g f : Nat → Option α} {r : α} (h : ∀ k, g k = f k) (k : Ev f r) : Ev g r := by
  obtain ⟨K, hK⟩ := k
  exact ⟨K, fun n hn => by rw [h n]; exact hK n hn⟩
theorem Ev.ofEq {α : Type} {g : Option α} {r : α} (h : g = some r) : Ev (fun _ => g) r := ⟨0, fun _ _ => h⟩
theorem Ev.det {α : Type} {g : Nat → Option α} {r q : α} (h : Ev g r) (k : Ev g q) : r = q := by
  obtain ⟨K, hK⟩ := h
  obtain ⟨L, hL⟩ := k
  have h1 := hK (K + L) (by omega)
  rw [hL (K + L) (by omega)] at h1
  exact (Option.some.inj h1).symm
theorem mul_bound {a b m n : Int} (ha : 0 ≤ a) (hb : 0 ≤ b) (hm : a ≤ m) (hn : b ≤ n) : 0 ≤ a * b ∧ a * b ≤ m * n := by
  refine ⟨Int.mul_nonneg ha hb, ?_⟩
  exact Int.mul_le_mul hm hn hb (by omega)
theorem mul_lt2 {a b A B : Int} (h1 : a < A) (h2 : b < B) (ha : 0 ≤ a) (hb : 0 ≤ b) : a * b < A * B :=
  Int.lt_of_le_of_lt (Int.mul_le_mul_of_nonneg_right (Int.le_of_lt h1) hb) (Int.mul_lt_mul_of_pos_left h2 (by omega))
def sgn (x : Int) : Int := if x < 0 then -1 else if x = 0 then 0 else 1

theorem sgn_ge {x : Int} : sgn x ≥ 0 ↔ 0 ≤ x := by unfold sgn; constructor <;> intro h <;> revert h <;> split <;> (try split) <;> omega
end Gim
