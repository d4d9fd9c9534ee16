/- The theory that this law needs. -/
import Derived.Test.YtnjobojkoaknpaaDoorWordsMore
import Derived.Laws.BitsLemmas
import Derived.Test.YtnjobojkoaknpaaDoorFx2
import Derived.Test.YtnjobojkoaknpaaDoorFx5
import Derived.Test.YtnjobojkoaknpaaDoorFx3
import Derived.Test.YtnjobojkoaknpaaDoorFx4
import Derived.Test.YtnjobojkoaknpaaDoorFx6
import Derived.Test.YtnjobojkoaknpaaDoorFx11
import Derived.Test.YtnjobojkoaknpaaDoorFx7
import Derived.Test.YtnjobojkoaknpaaDoorFx10
import Derived.Test.YtnjobojkoaknpaaDoorFx8
import Derived.Test.YtnjobojkoaknpaaDoorFx12
import Derived.Test.YtnjobojkoaknpaaDoorFx13
section
namespace Gim
set_option linter.unusedVariables false

def pw (e : Int) : Rat := (2 : Rat) ^ e
theorem two_ne : (2 : Rat) ≠ 0 := by decide
theorem zi (e : Int) : 0 < pw e := Rat.zpow_pos (by decide)
theorem uj (a b : Int) : pw (a + b) = pw a * pw b := Rat.zpow_add two_ne a b
theorem pw_zero : pw 0 = 1 := Rat.zpow_zero 2
theorem pw_one : pw 1 = 2 := Rat.zpow_one 2
theorem Gf (e : Int) : pw (e + 1) = 2 * pw e := by rw [uj, pw_one, Rat.mul_comm]
theorem pw_nat (n : Nat) : pw (n : Int) = ((2 ^ n : Int) : Rat) := by
  unfold pw
  rw [Rat.zpow_natCast]
  push_cast
  rfl
theorem Ff (e : Int) (n : Nat) : pw (e + n) = ((2 ^ n : Int) : Rat) * pw e := by rw [uj, pw_nat, Rat.mul_comm]
theorem pw_le_add (e : Int) (n : Nat) : pw e ≤ pw (e + n) := by
  induction n with
  | zero => simp
  | succ n ih =>
    have h := Gf (e + n)
    have hp := zi (e + n)
    have e1 : e + ((n + 1 : Nat) : Int) = e + n + 1 := by omega
    rw [e1, h]
    grind
theorem Bt {a b : Int} (h : a ≤ b) : pw a ≤ pw b := by
  obtain ⟨n, rfl⟩ : ∃ n : Nat, b = a + n := ⟨(b - a).toNat, by omega⟩
  exact pw_le_add a n
theorem pw_lt {a b : Int} (h : a < b) : 2 * pw a ≤ pw b := by
  rw [← Gf]
  exact Bt h
theorem pw_le_iff {a b : Int} : pw a ≤ pw b ↔ a ≤ b := by
  constructor
  · intro h
    by_cases hc : a ≤ b
    · exact hc
    · have := pw_lt (Int.not_le.mp hc)
      have := zi b
      grind
  · exact Bt
theorem Hf (e : Int) : pw (-e) * pw e = 1 := by rw [← uj, Int.add_left_neg, pw_zero]

theorem si {a b : Int} {e : Int} : (a : Rat) * pw e ≤ b * pw e ↔ a ≤ b := by
  have hp := zi e
  constructor
  · intro h
    exact Rat.intCast_le_intCast.mp (Rat.le_of_mul_le_mul_right h hp)
  · intro h
    exact Rat.mul_le_mul_of_nonneg_right (Rat.intCast_le_intCast.mpr h) (Rat.le_of_lt hp)
theorem qb {a b : Int} {e : Int} : (a : Rat) * pw e < b * pw e ↔ a < b := by
  rw [← Rat.not_le, si, Int.not_le]
theorem Ai {a b : Int} {e : Int} (h : (a : Rat) * pw e = b * pw e) : a = b := by
  have h1 := (si (e := e)).mp (by rw [h]; exact Rat.le_refl : (a : Rat) * pw e ≤ b * pw e)
  have h2 := (si (e := e)).mp (by rw [h]; exact Rat.le_refl : (b : Rat) * pw e ≤ a * pw e)
  omega
theorem mul_le_mul_right {a b c : Rat} (h : a ≤ b) (hc : 0 ≤ c) : a * c ≤ b * c := Rat.mul_le_mul_of_nonneg_right h hc

structure Rnd (x : Rat) (q n : Int) : Prop where
  hq : -1074 ≤ q
  lo : q = -1074 ∨ (4503599627370496 : Int) * pw q ≤ x
  hi : x < (9007199254740992 : Int) * pw q
  pos : 0 < x
  near1 : 2 * x ≤ (2 * n + 1 : Int) * pw q
  near2 : (2 * n - 1 : Int) * pw q ≤ 2 * x
  tie1 : 2 * x = (2 * n + 1 : Int) * pw q → n % 2 = 0
  tie2 : 2 * x = (2 * n - 1 : Int) * pw q → n % 2 = 0

theorem Rnd.q_le {x y : Rat} {q n q' n' : Int} (h : Rnd x q n) (h' : Rnd y q' n') (hxy : x ≤ y) : q ≤ q' := by
  by_cases hc : q ≤ q'
  · exact hc
  · exfalso
    have hc := Int.not_le.mp hc
    have h1 : (4503599627370496 : Int) * pw q ≤ x := by
      rcases h.lo with h1 | h1
      · have := h'.hq; omega
      · exact h1
    have h2 := h'.hi
    have h3 := pw_lt hc
    push_cast at h1 h2
    grind
theorem Rnd.n_le {x : Rat} {q n : Int} (h : Rnd x q n) : n ≤ 9007199254740992 := by
  have h1 := h.near2
  have h2 := h.hi
  have h3 : (2 * n - 1 : Int) * pw q < (18014398509481984 : Int) * pw q := by push_cast at h1 h2 ⊢; grind
  have := qb.mp h3
  omega
theorem Rnd.n_ge {x : Rat} {q n : Int} (h : Rnd x q n) (hlo : (4503599627370496 : Int) * pw q ≤ x) : 4503599627370496 ≤ n := by
  have h1 := h.near1
  have h3 : (9007199254740992 : Int) * pw q ≤ (2 * n + 1 : Int) * pw q := by push_cast at h1 hlo ⊢; grind
  have := si.mp h3
  omega
theorem Rnd.Gu {x : Rat} {q n : Int} (h : Rnd x q n) : 0 ≤ n := by
  have h1 := h.near1
  have h2 := h.pos
  have h3 : (0 : Int) * pw q < (2 * n + 1 : Int) * pw q := by push_cast at h1 ⊢; grind
  have := qb.mp h3
  omega
theorem Rnd.n_mono {x y : Rat} {q n n' : Int} (h : Rnd x q n) (h' : Rnd y q n') (hxy : x ≤ y) : n ≤ n' := by
  by_cases hc : n ≤ n'
  · exact hc
  · exfalso
    have hc := Int.not_le.mp hc
    have h1 := h.near2
    have h2 := h'.near1
    have h3 : (2 * n - 1 : Int) * pw q ≤ (2 * n' + 1 : Int) * pw q := by grind
    have h4 := si.mp h3
    have e : n = n' + 1 := by omega
    subst e
    have e1 : (2 * (n' + 1) - 1 : Int) = 2 * n' + 1 := by omega
    rw [e1] at h1
    have hx : 2 * x = (2 * n' + 1 : Int) * pw q := by grind
    have hy : 2 * y = (2 * n' + 1 : Int) * pw q := by grind
    have t1 := h'.tie1 hy
    have t2 := h.tie2 (by rw [e1]; exact hx)
    omega
theorem Rnd.unique {x : Rat} {q n q' n' : Int} (h : Rnd x q n) (h' : Rnd x q' n') : q = q' ∧ n = n' := by
  have h1 := h.q_le h' Rat.le_refl
  have h2 := h'.q_le h Rat.le_refl
  obtain rfl : q = q' := by omega
  have h3 := h.n_mono h' Rat.le_refl
  have h4 := h'.n_mono h Rat.le_refl
  omega

def enc (q n : Int) : Int := (q + 1074) * 4503599627370496 + n

theorem Rnd.G6 {x y : Rat} {q n q' n' : Int} (h : Rnd x q n) (h' : Rnd y q' n') (hxy : x ≤ y) : enc q n ≤ enc q' n' := by
  have h1 := h.q_le h' hxy
  by_cases hc : q = q'
  · subst hc
    have := h.n_mono h' hxy
    unfold enc
    omega
  · have h2 := h.n_le
    have h3 : 4503599627370496 ≤ n' := by
      rcases h'.lo with h3 | h3
      · have := h.hq; omega
      · exact h'.n_ge h3
    unfold enc
    omega
theorem Rnd.enc_nonneg {x : Rat} {q n : Int} (h : Rnd x q n) : 0 ≤ enc q n := by
  have := h.hq; have := h.Gu; unfold enc; omega

def xx (m : Int) : Int := if m < 4503599627370496 then m else m % 4503599627370496 + 4503599627370496
def xq (m : Int) : Int := if m < 4503599627370496 then -1074 else m / 4503599627370496 - 1075
def vm (m : Int) : Rat := (xx m : Rat) * pw (xq m)

theorem Dk (m : Int) (h : 0 ≤ m) : enc (xq m) (xx m) = m := by
  unfold enc xq xx
  split <;> omega
theorem Fx {m : Int} (h : 0 ≤ m) : 0 ≤ xx m := by unfold xx; split <;> omega
theorem Br {m : Int} : xx m < 9007199254740992 := by unfold xx; split <;> omega
theorem expo_ge {m : Int} (h : 0 ≤ m) : -1074 ≤ xq m := by unfold xq; split <;> omega
theorem mant_ge {m : Int} (h : 0 ≤ m) : xq m = -1074 ∨ 4503599627370496 ≤ xx m := by unfold xq xx; split <;> omega
theorem Gd : vm 0 = 0 := by unfold vm xx; simp
theorem Cc {m : Int} (h : 0 ≤ m) : 0 ≤ vm m := by
  unfold vm
  have h1 : (0 : Rat) ≤ (xx m : Rat) := by exact_mod_cast Fx h
  exact Rat.mul_nonneg h1 (Rat.le_of_lt (zi _))
theorem Bc {m : Int} (h : 0 < m) : 0 < xx m := by unfold xx; split <;> omega
theorem yh {m : Int} (h : 0 < m) : 0 < vm m := by
  unfold vm
  have h1 : (0 : Rat) < (xx m : Rat) := by exact_mod_cast Bc h
  exact Rat.mul_pos h1 (zi _)

theorem Rnd.self {q n : Int} (hq : -1074 ≤ q) (hn : 0 < n) (h1 : n < 9007199254740992) (h2 : q = -1074 ∨ 4503599627370496 ≤ n) : Rnd ((n : Rat) * pw q) q n := by
  have hp := zi q
  have hn' : (0 : Rat) < (n : Rat) := by exact_mod_cast hn
  refine ⟨hq, ?_, qb.mpr h1, Rat.mul_pos hn' hp, ?_, ?_, ?_, ?_⟩
  · rcases h2 with h2 | h2
    · exact .inl h2
    · exact .inr (si.mpr h2)
  · push_cast; grind
  · push_cast; grind
  · intro h; push_cast at h; grind
  · intro h; push_cast at h; grind
theorem Rnd.of_vm {m : Int} (h : 0 < m) : Rnd (vm m) (xq m) (xx m) :=
  Rnd.self (expo_ge (Int.le_of_lt h)) (Bc h) Br (mant_ge (Int.le_of_lt h))

theorem vm_mono {m m' : Int} (h0 : 0 ≤ m) (h : m ≤ m') : vm m ≤ vm m' := by
  by_cases hm : m = 0
  · subst hm; rw [Gd]; exact Cc (by omega)
  · by_cases hc : vm m ≤ vm m'
    · exact hc
    · have h1 := (Rnd.of_vm (m := m') (by omega)).G6 (Rnd.of_vm (m := m) (by omega)) (Rat.le_of_lt (Rat.not_le.mp hc))
      rw [Dk _ (by omega), Dk _ (by omega)] at h1
      obtain rfl : m = m' := by omega
      exact Rat.le_refl
theorem vm_enc {q n : Int} (hq : -1074 ≤ q) (hn : 0 ≤ n) (h1 : n ≤ 9007199254740992) (h2 : q = -1074 ∨ 4503599627370496 ≤ n) : vm (enc q n) = (n : Rat) * pw q := by
  unfold vm
  by_cases ha : n < 4503599627370496
  · obtain rfl : q = -1074 := by omega
    have e : enc (-1074) n = n := by unfold enc; omega
    rw [e]
    unfold xx xq
    rw [if_pos ha, if_pos ha]
  · by_cases hb : n = 9007199254740992
    · subst hb
      have e1 : xx (enc q 9007199254740992) = 4503599627370496 := by unfold xx enc; rw [if_neg (by omega)]; omega
      have e2 : xq (enc q 9007199254740992) = q + 1 := by unfold xq enc; rw [if_neg (by omega)]; omega
      rw [e1, e2, Gf]
      push_cast
      grind
    · have e1 : xx (enc q n) = n := by unfold xx enc; rw [if_neg (by omega)]; omega
      have e2 : xq (enc q n) = q := by unfold xq enc; rw [if_neg (by omega)]; omega
      rw [e1, e2]
theorem Rnd.n_ge' {x : Rat} {q n : Int} (h : Rnd x q n) : q = -1074 ∨ 4503599627370496 ≤ n := by
  rcases h.lo with h1 | h1
  · exact .inl h1
  · exact .inr (h.n_ge h1)
theorem Rnd.val_enc {x : Rat} {q n : Int} (h : Rnd x q n) : vm (enc q n) = (n : Rat) * pw q :=
  vm_enc h.hq h.Gu h.n_le h.n_ge'

def INF : Int := 9218868437227405312
structure RB (x : Rat) (b f : Int) : Prop where
  ex : ∃ q n, Rnd x q n ∧ b = (if enc q n < INF then enc q n else INF) ∧
    f = if enc q n < INF then (if x = (n : Rat) * pw q then 0 else if x < pw (-1022) then 3 else 1) else 5

theorem RB.unique {x : Rat} {b f b' f' : Int} (h : RB x b f) (h' : RB x b' f') : b = b' ∧ f = f' := by
  obtain ⟨q, n, hr, rfl, rfl⟩ := h.ex
  obtain ⟨q', n', hr', rfl, rfl⟩ := h'.ex
  obtain ⟨rfl, rfl⟩ := hr.unique hr'
  exact ⟨rfl, rfl⟩
theorem RB.mono {x y : Rat} {b f b' f' : Int} (h : RB x b f) (h' : RB y b' f') (hxy : x ≤ y) : b ≤ b' := by
  obtain ⟨q, n, hr, rfl, rfl⟩ := h.ex
  obtain ⟨q', n', hr', rfl, rfl⟩ := h'.ex
  have := hr.G6 hr' hxy
  split <;> split <;> omega
theorem RB.range {x : Rat} {b f : Int} (h : RB x b f) : 0 ≤ b ∧ b ≤ INF := by
  obtain ⟨q, n, hr, rfl, rfl⟩ := h.ex
  have := hr.enc_nonneg
  unfold INF
  split <;> omega
theorem RB.self {m : Int} (h : 0 < m) (hm : m < INF) : RB (vm m) m 0 := by
  refine ⟨xq m, xx m, Rnd.of_vm h, ?_, ?_⟩
  · rw [Dk m (by omega), if_pos hm]
  · rw [Dk m (by omega), if_pos hm]; exact (if_pos rfl).symm
end Gim

end

section
namespace Gim
open Go Go.RowKit Go.Proofs.YtnjobojkoaknpaaDoorW.PrintWords Go.Proofs.YtnjobojkoaknpaaDoorW.PrintLast Go.Proofs.YtnjobojkoaknpaaDoorW.PrintMore
set_option linter.unusedVariables false

theorem w64 {x : Int} (h1 : -9223372036854775808 ≤ x) (h2 : x ≤ 9223372036854775807) : wrap64 x = x := by unfold wrap64; omega
theorem wu64 {x : Int} (h1 : 0 ≤ x) (h2 : x < 18446744073709551616) : IntKind.u64.wrap x = x := by
  simp [IntKind.wrap, IntKind.bits, IntKind.signed]; omega
theorem yc (x : Int) : IntKind.u64.wrap x = x % 18446744073709551616 := by
  simp [IntKind.wrap, IntKind.bits, IntKind.signed]
theorem wraps_u64 (n : Int) (h₀ : 0 ≤ n) (h₁ : n < 2 ^ 64) : IntKind.u64.wrap n = n := wu64 h₀ (by simpa using h₁)
theorem wraps_i64 (n : Int) (h₀ : 0 ≤ n) (h₁ : n < 2 ^ 63) : IntKind.i64.wrap n = n := by
  rw [IntKind.wrap_i64]; have : n < 9223372036854775808 := by simpa using h₁
  omega
theorem u64_and (i : Nat) (hi : i ≤ 64) {x : Int} (h₀ : 0 ≤ x) (h₁ : x < 18446744073709551616) : bits .and .u64 x (2 ^ i - 1) = x % 2 ^ i :=
  bits_mask .u64 64 (by decide) wraps_u64 i hi x h₀ (by simpa using h₁)
theorem u64_and1 {x : Int} (h₀ : 0 ≤ x) (h₁ : x < 18446744073709551616) : bits .and .u64 x 1 = x % 2 := u64_and 1 (by decide) h₀ h₁
theorem F7 {x : Int} (h₀ : 0 ≤ x) (h₁ : x < 18446744073709551616) : bits .and .u64 x 2047 = x % 2048 := u64_and 11 (by decide) h₀ h₁
theorem u64_and52 {x : Int} (h₀ : 0 ≤ x) (h₁ : x < 18446744073709551616) : bits .and .u64 x 4503599627370495 = x % 4503599627370496 := u64_and 52 (by decide) h₀ h₁
theorem Dw {x : Int} (h₀ : 0 ≤ x) (h₁ : x < 18446744073709551616) : bits .and .u64 x 4294967295 = x % 4294967296 := u64_and 32 (by decide) h₀ h₁
theorem u64_or (i : Nat) {x y : Int} (hx₀ : 0 ≤ x) (hx : x % 2 ^ i = 0) (hx₁ : x < 18446744073709551616) (hy₀ : 0 ≤ y) (hy : y < 2 ^ i) (hy₁ : y < 18446744073709551616) : bits .or .u64 x y = x + y :=
  bits_join .u64 64 (by decide) wraps_u64 i x y hx₀ hx (by simpa using hx₁) hy₀ hy (by simpa using hy₁)
theorem E8 (k : IntKind) (x y : Int) : bits .or k x y = bits .or k y x := by
  unfold bits
  simp [BitVec.or_comm]
theorem u64_or' (i : Nat) {x y : Int} (hx₀ : 0 ≤ x) (hx : x % 2 ^ i = 0) (hx₁ : x < 18446744073709551616) (hy₀ : 0 ≤ y) (hy : y < 2 ^ i) (hy₁ : y < 18446744073709551616) : bits .or .u64 y x = x + y := by
  rw [E8]; exact u64_or i hx₀ hx hx₁ hy₀ hy hy₁
theorem u64_or_zero {x y : Int} (hx₀ : 0 ≤ x) (hx₁ : x < 18446744073709551616) (hy₀ : 0 ≤ y) (hy₁ : y < 18446744073709551616) : (bits .or .u64 x y == 0) = (x == 0 && y == 0) := by
  obtain ⟨a, rfl⟩ := Int.eq_ofNat_of_zero_le hx₀
  obtain ⟨b, rfl⟩ := Int.eq_ofNat_of_zero_le hy₀
  rw [(bits_nat .u64 64 (by decide) wraps_u64 a b (by omega) (by omega)).2]
  rw [Bool.eq_iff_iff]
  simp [Nat.or_eq_zero_iff]
theorem u64_top {x : Int} (h₀ : 0 ≤ x) (h₁ : x < 18446744073709551616) : bits .andNot .u64 x 9223372036854775808 = x % 9223372036854775808 := by
  have e : bits .andNot .u64 x 9223372036854775808 = bits .and .u64 x (2 ^ 63 - 1) := by
    unfold bits
    simp only []
    congr 3
  rw [e, u64_and 63 (by decide) h₀ h₁]
  rfl
theorem u64_xor {x : Int} (h₀ : 0 ≤ x) (h₁ : x < 18446744073709551616) : bits .xor .u64 x 9223372036854775808 = if x < 9223372036854775808 then x + 9223372036854775808 else x - 9223372036854775808 := by
  obtain ⟨a, rfl⟩ := Int.eq_ofNat_of_zero_le h₀
  have e : bits .xor .u64 (a : Int) 9223372036854775808 = IntKind.u64.wrap ((a ^^^ 9223372036854775808 : Nat) : Int) := by
    have e0 : bits .xor .u64 (a : Int) 9223372036854775808 = IntKind.u64.wrap ((BitVec.ofInt 64 (a : Int) ^^^ BitVec.ofInt 64 9223372036854775808).toNat : Int) := rfl
    rw [e0, BitVec.toNat_xor, BitVec.ofInt_natCast, BitVec.toNat_ofNat, show a % 2 ^ 64 = a from Nat.mod_eq_of_lt (by omega)]
    rfl
  have k : (a ^^^ 9223372036854775808 : Nat) = if a < 9223372036854775808 then a + 9223372036854775808 else a - 9223372036854775808 := by
    split
    · rename_i hc
      have := Nat.two_pow_add_eq_or_of_lt (i := 63) (b := a) (by omega) 1
      have h2 : (9223372036854775808 : Nat) ^^^ a = 9223372036854775808 ||| a := by
        apply Nat.eq_of_testBit_eq
        intro i
        simp only [Nat.testBit_xor, Nat.testBit_or]
        by_cases hi : i = 63
        · subst hi
          have : a.testBit 63 = false := Nat.testBit_lt_two_pow (by omega)
          simp [this]
        · have : (9223372036854775808 : Nat).testBit i = false := by
            have : (9223372036854775808 : Nat) = 2 ^ 63 := by decide
            rw [this, Nat.testBit_two_pow]
            simp; omega
          simp [this]
      rw [Nat.xor_comm, h2]
      have h3 : (2 ^ 63 * 1 : Nat) = 9223372036854775808 := by decide
      rw [h3] at this
      omega
    · rename_i hc
      obtain ⟨b, rfl, hb⟩ : ∃ b, a = 9223372036854775808 + b ∧ b < 9223372036854775808 := ⟨a - 9223372036854775808, by omega, by omega⟩
      have := Nat.two_pow_add_eq_or_of_lt (i := 63) (b := b) (by omega) 1
      have h4 : (2 ^ 63 * 1 : Nat) = 9223372036854775808 := by decide
      rw [h4] at this
      have h2 : (9223372036854775808 : Nat) + b = 9223372036854775808 ||| b := by omega
      have h3 : (9223372036854775808 ||| b) ^^^ 9223372036854775808 = b := by
        apply Nat.eq_of_testBit_eq
        intro i
        simp only [Nat.testBit_xor, Nat.testBit_or]
        by_cases hi : i = 63
        · subst hi
          have h0 : b.testBit 63 = false := Nat.testBit_lt_two_pow (by omega)
          have h1 : (9223372036854775808 : Nat).testBit 63 = true := by decide
          simp [h0, h1]
        · have : (9223372036854775808 : Nat).testBit i = false := by
            have : (9223372036854775808 : Nat) = 2 ^ 63 := by decide
            rw [this, Nat.testBit_two_pow]
            simp; omega
          simp [this]
      rw [h2, h3]; omega
  rw [e, k]
  split
  · rw [wu64 (by omega) (by omega)]; split <;> omega
  · rw [wu64 (by omega) (by omega)]; split <;> omega
theorem i64_and (i : Nat) (hi : i ≤ 62) (x : Int) : bits .and .i64 x (2 ^ i - 1) = x % 2 ^ i := by
  have hpos : 0 < 2 ^ i := Nat.two_pow_pos i
  have hle : 2 ^ i ≤ 2 ^ 62 := Nat.pow_le_pow_right (by decide) hi
  have hc : ((2 : Int) ^ i - 1) = ((2 ^ i - 1 : Nat) : Int) := by
    rw [Int.natCast_sub hpos]; simp
  have e : bits .and .i64 x (2 ^ i - 1) = IntKind.i64.wrap (((x % 18446744073709551616).toNat % 2 ^ i : Nat) : Int) := by
    rw [hc]
    have e0 : bits .and .i64 x ((2 ^ i - 1 : Nat) : Int) = IntKind.i64.wrap ((BitVec.ofInt 64 x &&& BitVec.ofInt 64 ((2 ^ i - 1 : Nat) : Int)).toNat : Int) := rfl
    rw [e0, BitVec.toNat_and, BitVec.ofInt_natCast, BitVec.toNat_ofNat, BitVec.toNat_ofInt,
      Nat.mod_eq_of_lt (a := 2 ^ i - 1) (by have : 2 ^ 62 < 2 ^ 64 := by decide
                                            omega), Nat.and_two_pow_sub_one_eq_mod]
    rfl
  have hb : ((x % 18446744073709551616).toNat % 2 ^ i : Nat) < 2 ^ 62 := Nat.lt_of_lt_of_le (Nat.mod_lt _ hpos) hle
  have hb' : ((x % 18446744073709551616).toNat % 2 ^ i : Nat) < 4611686018427387904 := hb
  rw [e, wraps_i64 _ (by omega) (by omega)]
  have hm : 0 ≤ x % 18446744073709551616 := by omega
  have hp : ((2 ^ i : Nat) : Int) = 2 ^ i := by simp
  rw [Int.natCast_emod, Int.toNat_of_nonneg hm, hp]
  refine Int.emod_emod_of_dvd x ⟨2 ^ (64 - i), ?_⟩
  rw [← Int.pow_add, show i + (64 - i) = 64 from by omega]
  rfl

theorem Ev.succ {α : Type} {g : Nat → Option α} {r : α} (h : Ev (fun k => g (k + 1)) r) : Ev g r := by
  obtain ⟨K, hK⟩ := h
  exact ⟨K + 1, fun k hk => by obtain ⟨j, rfl⟩ : ∃ j, k = j + 1 := ⟨k - 1, by omega⟩; exact hK j (by omega)⟩
theorem Ev.pos {α : Type} {c : Prop} [Decidable c] {a b : Nat → Option α} {r : α} (h : c) (k : Ev a r) : Ev (fun n => if c then a n else b n) r := by
  obtain ⟨K, hK⟩ := k
  exact ⟨K, fun n hn => by show (if c then a n else b n) = some r; rw [if_pos h]; exact hK n hn⟩
theorem Ev.neg {α : Type} {c : Prop} [Decidable c] {a b : Nat → Option α} {r : α} (h : ¬ c) (k : Ev b r) : Ev (fun n => if c then a n else b n) r := by
  obtain ⟨K, hK⟩ := k
  exact ⟨K, fun n hn => by show (if c then a n else b n) = some r; rw [if_neg h]; exact hK n hn⟩
theorem Ev.call {α β : Type} {g : Option α} {f : Nat → α → Option β} {a : α} {r : β} (h : g = some a) (k : Ev (fun n => f n a) r) : Ev (fun n => g.bind (f n)) r := by
  obtain ⟨K, hK⟩ := k
  exact ⟨K, fun n hn => by show g.bind (f n) = some r; rw [h]; exact hK n hn⟩
theorem Ev.same {α : Type} {g f : Nat → Option α} {r : α} (h : ∀ k, g k = f k) (k : Ev f r) : Ev g r := by
  obtain ⟨K, hK⟩ := k
  exact ⟨K, fun n hn => by rw [h n]; exact hK n hn⟩
theorem Ev.det {α : Type} {g : Nat → Option α} {r q : α} (h : Ev g r) (k : Ev g q) : r = q := by
  obtain ⟨K, hK⟩ := h
  obtain ⟨L, hL⟩ := k
  have h1 := hK (K + L) (by omega)
  rw [hL (K + L) (by omega)] at h1
  exact (Option.some.inj h1).symm
theorem xg {a b m n : Int} (ha : 0 ≤ a) (hb : 0 ≤ b) (hm : a ≤ m) (hn : b ≤ n) : 0 ≤ a * b ∧ a * b ≤ m * n := by
  refine ⟨Int.mul_nonneg ha hb, ?_⟩
  exact Int.mul_le_mul hm hn hb (by omega)
def sgn (x : Int) : Int := if x < 0 then -1 else if x = 0 then 0 else 1

end Gim

end

section
namespace Gim
open Go Go.RowKit Go.Proofs.YtnjobojkoaknpaaDoorW.PrintWords Go.Proofs.YtnjobojkoaknpaaDoorW.PrintLast Go.Proofs.YtnjobojkoaknpaaDoorW.PrintMore Go.Proofs.YtnjobojkoaknpaaDoor.F
set_option linter.unusedVariables false

def U (a : Int) : Prop := 0 ≤ a ∧ a < 18446744073709551616
def kindOf (m : Int) : Int := if m = 0 then 1 else if m < 4503599627370496 then 2 else if m < 9218868437227405312 then 3 else if m = 9218868437227405312 then 4 else 5
def flip (a : Int) : Int := if a < 9223372036854775808 then a + 9223372036854775808 else a - 9223372036854775808

theorem wu {a : Int} (h : U a) : lh.f a = some (decide (9223372036854775808 ≤ a)) := by
  obtain ⟨h0, h1⟩ := h
  unfold lh.f
  congr 1
  rw [Bool.eq_iff_iff]
  simp
  omega
theorem Bi {a : Int} (h : U a) : Ae.f a = some (a % 9223372036854775808) := by
  unfold Ae.f; rw [u64_top h.1 h.2]
theorem Db {a : Int} (h : U a) : wm.f a = some (a / 4503599627370496 % 2048) := by
  obtain ⟨h0, h1⟩ := h
  unfold wm.f
  rw [F7 (by omega) (by omega), w64 (by omega) (by omega)]
theorem Cu {a : Int} (h : U a) : uq.f a = some (a % 4503599627370496) := by
  unfold uq.f; rw [u64_and52 h.1 h.2]
theorem kind1 {m : Int} : kindOf m = 1 ↔ m = 0 := by unfold kindOf; grind
theorem kind2 {m : Int} (h : 0 ≤ m) : kindOf m = 2 ↔ 0 < m ∧ m < 4503599627370496 := by unfold kindOf; grind
theorem kind3 {m : Int} (h : 0 ≤ m) : kindOf m = 3 ↔ 4503599627370496 ≤ m ∧ m < 9218868437227405312 := by unfold kindOf; grind
theorem kind4 {m : Int} (h : 0 ≤ m) : kindOf m = 4 ↔ m = 9218868437227405312 := by unfold kindOf; grind
theorem kind5 {m : Int} (h : 0 ≤ m) : kindOf m = 5 ↔ 9218868437227405312 < m := by unfold kindOf; grind
theorem Cm (a : Int) : 0 ≤ a % 9223372036854775808 := by omega
theorem qi {a : Int} (h : U a) : Ev (fun k => dw.f k a) (kindOf (a % 9223372036854775808)) := by
  have hh := h
  obtain ⟨h0, h1⟩ := h
  unfold dw.f
  refine Ev.call (Db hh) (Ev.call (Cu hh) ?_)
  have hm := Cm a
  by_cases hE : a / 4503599627370496 % 2048 = 0
  · refine Ev.pos hE (Ev.succ ?_)
    simp only [dw.j0]
    by_cases hF : a % 4503599627370496 = 0
    · rw [kind1.mpr (by omega)]
      exact Ev.pos (by simpa using hF) (Ev.now _)
    · rw [(kind2 hm).mpr (by omega)]
      exact Ev.neg (by simpa using hF) (Ev.pos hE (Ev.now _))
  · refine Ev.neg hE (Ev.succ ?_)
    simp only [dw.j0]
    refine Ev.neg (by simp) (Ev.neg hE ?_)
    by_cases hN : a / 4503599627370496 % 2048 < 2047
    · rw [(kind3 hm).mpr (by omega)]
      exact Ev.pos hN (Ev.now _)
    · refine Ev.neg hN ?_
      by_cases hF : a % 4503599627370496 = 0
      · rw [(kind4 hm).mpr (by omega)]
        exact Ev.pos hF (Ev.now _)
      · rw [(kind5 hm).mpr (by omega)]
        exact Ev.neg hF (Ev.now _)
def signals (a : Int) : Bool := decide (9218868437227405312 < a % 9223372036854775808) && decide (a / 2251799813685248 % 2 = 0)
theorem Gb {a : Int} (h : U a) : Ev (fun k => o9.f k a) (signals a) := by
  have hh := h
  obtain ⟨h0, h1⟩ := h
  unfold o9.f
  refine Ev.bind (qi hh) ?_
  have hm := Cm a
  by_cases hk : 9218868437227405312 < a % 9223372036854775808
  · refine Ev.pos ((kind5 hm).mpr hk) ?_
    rw [u64_and1 (by omega) (by omega)]
    have e : signals a = (a / 2251799813685248 % 2 == 0) := by
      unfold signals
      rw [decide_eq_true hk, Bool.true_and, Bool.eq_iff_iff]
      simp
    rw [e]
    exact Ev.now _
  · refine Ev.neg (fun hc => hk ((kind5 hm).mp hc)) ?_
    have e : signals a = false := by unfold signals; rw [decide_eq_false hk, Bool.false_and]
    rw [e]
    exact Ev.now _
theorem yf {a : Int} (h : U a) (h1 : 0 < a % 9223372036854775808) (h2 : a % 9223372036854775808 < 9218868437227405312) :
    Ev (fun k => jf.f k a) (xx (a % 9223372036854775808), xq (a % 9223372036854775808)) := by
  have hh := h
  obtain ⟨h0, h3⟩ := h
  unfold jf.f
  refine Ev.bind (qi hh) ?_
  have hm := Cm a
  by_cases hs : a % 9223372036854775808 < 4503599627370496
  · refine Ev.pos ((kind2 hm).mpr ⟨h1, hs⟩) (Ev.call (Cu hh) ?_)
    have e1 : xx (a % 9223372036854775808) = a % 4503599627370496 := by unfold xx; rw [if_pos hs]; omega
    have e2 : xq (a % 9223372036854775808) = -1074 := by unfold xq; rw [if_pos hs]
    rw [e1, e2]
    exact Ev.now _
  · have k3 := (kind3 hm).mpr ⟨by omega, h2⟩
    refine Ev.neg (by rw [k3]; decide) (Ev.pos k3 (Ev.call (Cu hh) (Ev.call (Db hh) ?_)))
    have e1 : bits .or .u64 (a % 4503599627370496) 4503599627370496 = 4503599627370496 + a % 4503599627370496 := u64_or' 52 (by omega) (by decide) (by omega) (by omega) (by simp; omega) (by omega)
    rw [e1, w64 (by omega) (by omega)]
    have e2 : xx (a % 9223372036854775808) = 4503599627370496 + a % 4503599627370496 := by unfold xx; rw [if_neg hs]; omega
    have e3 : xq (a % 9223372036854775808) = a / 4503599627370496 % 2048 - 1075 := by unfold xq; rw [if_neg hs]; omega
    rw [e2, e3]
    exact Ev.now _
theorem Cz {a : Int} (h : U a) (h1 : a % 9223372036854775808 = 0 ∨ 9218868437227405312 ≤ a % 9223372036854775808) : Ev (fun k => jf.f k a) (0, 0) := by
  have hh := h
  unfold jf.f
  refine Ev.bind (qi hh) ?_
  have hm := Cm a
  exact Ev.neg (fun hc => by have := (kind2 hm).mp hc; omega) (Ev.neg (fun hc => by have := (kind3 hm).mp hc; omega) (Ev.now _))

def signed (neg : Bool) (m : Int) : Int := if neg then m + 9223372036854775808 else m
theorem zf (neg : Bool) {e f : Int} (he : 0 ≤ e) (he' : e < 2048) (hf : U f) : ko.f neg e f = some (signed neg (e * 4503599627370496 + f % 4503599627370496)) := by
  obtain ⟨h0, h1⟩ := hf
  unfold ko.f signed
  have p52 : (2 : Int) ^ 52 = 4503599627370496 := by decide
  have p63 : (2 : Int) ^ 63 = 9223372036854775808 := by decide
  have e1 : IntKind.u64.wrap e = e := wu64 he (by omega)
  rw [e1, F7 he (by omega), u64_and52 h0 h1, show e % 2048 = e from by omega, wu64 (by omega) (by omega)]
  have e2 : bits .or .u64 (e * 4503599627370496) (f % 4503599627370496) = e * 4503599627370496 + f % 4503599627370496 :=
    u64_or 52 (by omega) (by rw [p52]; omega) (by omega) (by omega) (by rw [p52]; omega) (by omega)
  rw [e2]
  cases neg
  · simp
  · simp only [if_true]
    rw [u64_or' 63 (by omega) (by rw [p63]; omega) (by omega) (by omega) (by rw [p63]; omega) (by omega), Int.add_comm]
end Gim

end

section
namespace Gim
open Go Go.RowKit Go.Proofs.YtnjobojkoaknpaaDoorW.PrintWords Go.Proofs.YtnjobojkoaknpaaDoorW.PrintLast Go.Proofs.YtnjobojkoaknpaaDoorW.PrintMore Go.Proofs.YtnjobojkoaknpaaDoor.F
set_option linter.unusedVariables false

def wv (h l : Int) : Int := h * 18446744073709551616 + l
def p2 (n : Int) : Int := 2 ^ n.toNat
theorem qz (n : Int) : 0 < p2 n := Int.pow_pos (by decide)
theorem xm {a b : Int} (ha : 0 ≤ a) (hb : 0 ≤ b) : p2 (a + b) = p2 a * p2 b := by
  unfold p2
  rw [Int.toNat_add ha hb, Int.pow_add]
theorem p2_0 : p2 0 = 1 := rfl
theorem p2_1 : p2 1 = 2 := rfl
theorem Be : p2 64 = 18446744073709551616 := by decide
theorem p2_128 : p2 128 = 340282366920938463463374607431768211456 := by decide
theorem Ag {a b : Int} (h : a ≤ b) : p2 a ≤ p2 b := by
  unfold p2
  have : a.toNat ≤ b.toNat := by omega
  exact_mod_cast Nat.pow_le_pow_right (by decide : 0 < 2) this
theorem Gc {a : Int} (h : 0 ≤ a) : p2 (a + 1) = 2 * p2 a := by rw [xm h (by decide), p2_1, Int.mul_comm]
theorem p2_neg {a : Int} (h : a ≤ 0) : p2 a = 1 := by unfold p2; rw [show a.toNat = 0 from by omega]; rfl
theorem Ao {a : Int} (h : 0 ≤ a) : pw a = (p2 a : Rat) := by
  obtain ⟨n, rfl⟩ := Int.eq_ofNat_of_zero_le h
  rw [pw_nat]
  rfl

theorem Af {h l : Int} (hh : U h) (hl : U l) : 0 ≤ wv h l ∧ wv h l < 340282366920938463463374607431768211456 := by
  obtain ⟨a, b⟩ := hh; obtain ⟨c, d⟩ := hl; unfold wv; omega
theorem wv_inj {h l h' l' : Int} (hh : U h) (hl : U l) (hh' : U h') (hl' : U l') (e : wv h l = wv h' l') : h = h' ∧ l = l' := by
  obtain ⟨a, b⟩ := hh; obtain ⟨c, d⟩ := hl; obtain ⟨a', b'⟩ := hh'; obtain ⟨c', d'⟩ := hl'; unfold wv at e; omega

theorem Bu {x n : Int} (hn : 0 ≤ n) (hn' : n ≤ 64) : shl .u64 x n = x * p2 n % 18446744073709551616 := by
  unfold shl p2
  rw [yc, show min n.toNat (IntKind.bits .u64) = n.toNat from Nat.min_eq_left (by simp [IntKind.bits]; omega)]
theorem Dt {x n : Int} (hn : 0 ≤ n) (hn' : n ≤ 64) : shr .u64 x n = x / p2 n := by
  unfold shr p2
  rw [show min n.toNat (IntKind.bits .u64) = n.toNat from Nat.min_eq_left (by simp [IntKind.bits]; omega)]

theorem yw {h l : Int} (hh : U h) (hl : U l) : lg.f h l = some (decide (wv h l = 0)) := by
  unfold lg.f
  rw [u64_or_zero hh.1 hh.2 hl.1 hl.2]
  congr 1
  rw [Bool.eq_iff_iff]
  obtain ⟨a, b⟩ := hh; obtain ⟨c, d⟩ := hl
  unfold wv
  simp
  omega

theorem Ez {x P Q : Int} (hx : U x) (hP : 0 < P) (hQ : 0 < Q) (h : P * Q = 18446744073709551616) : 0 ≤ x / Q ∧ x / Q < P ∧ 0 ≤ x % Q ∧ x % Q < Q ∧ x = x / Q * Q + x % Q := by
  obtain ⟨h0, h1⟩ := hx
  have e := Int.mul_ediv_add_emod x Q
  have r0 := Int.emod_nonneg x (Int.ne_of_gt hQ)
  have r1 := Int.emod_lt_of_pos x hQ
  refine ⟨Int.ediv_nonneg h0 (Int.le_of_lt hQ), ?_, r0, r1, by rw [Int.mul_comm]; exact e.symm⟩
  exact Int.ediv_lt_of_lt_mul hQ (by rw [h]; exact h1)

theorem Da {x P Q : Int} (hx : U x) (hP : 0 < P) (hQ : 0 < Q) (h : P * Q = 18446744073709551616) : x * P % 18446744073709551616 = x % Q * P ∧ 0 ≤ x % Q * P ∧ x % Q * P ≤ 18446744073709551616 - P := by
  obtain ⟨a0, a1, b0, b1, e⟩ := Ez hx hP hQ h
  have h2 : 0 ≤ x % Q * P := Int.mul_nonneg b0 (Int.le_of_lt hP)
  have h3 : x % Q * P ≤ 18446744073709551616 - P := by
    have : x % Q * P ≤ (Q - 1) * P := Int.mul_le_mul_of_nonneg_right (by omega) (Int.le_of_lt hP)
    have e2 : (Q - 1) * P = 18446744073709551616 - P := by rw [← h]; grind
    omega
  refine ⟨?_, h2, h3⟩
  have e3 : x * P = x / Q * 18446744073709551616 + x % Q * P := by
    rw [← h]; generalize x / Q = A at *; generalize x % Q = B at *; subst e; grind
  rw [e3]
  omega

theorem Er {h l n : Int} (hh : U h) (hl : U l) (hn : n ≤ 4611686018427387904) : ∃ h' l', ic.f h l n = some (h', l') ∧ U h' ∧ U l' ∧ wv h' l' = wv h l * p2 n % 340282366920938463463374607431768211456 := by
  have hv := Af hh hl
  unfold ic.f
  by_cases h1 : n ≤ 0
  · rw [if_pos h1]
    refine ⟨h, l, rfl, hh, hl, ?_⟩
    rw [p2_neg h1]
    omega
  · rw [if_neg h1]
    by_cases h2 : n ≥ 128
    · rw [if_pos h2]
      refine ⟨0, 0, rfl, ⟨by decide, by decide⟩, ⟨by decide, by decide⟩, ?_⟩
      have e : p2 n = p2 128 * p2 (n - 128) := by rw [← xm (by omega) (by omega)]; congr 1; omega
      rw [e, p2_128]
      have : wv h l * (340282366920938463463374607431768211456 * p2 (n - 128)) = 340282366920938463463374607431768211456 * (wv h l * p2 (n - 128)) := by grind
      rw [this, Int.mul_emod_right]
      rfl
    · rw [if_neg h2]
      by_cases h3 : n ≥ 64
      · rw [if_pos h3, w64 (by omega) (by omega), if_pos (by omega), Bu (by omega) (by omega)]
        refine ⟨_, _, rfl, ⟨by omega, by omega⟩, ⟨by decide, by decide⟩, ?_⟩
        have e : p2 n = 18446744073709551616 * p2 (n - 64) := by rw [← Be, ← xm (by omega) (by omega)]; congr 1; omega
        rw [e]
        have e2 : wv h l * (18446744073709551616 * p2 (n - 64)) = 340282366920938463463374607431768211456 * (h * p2 (n - 64)) + (l * p2 (n - 64)) * 18446744073709551616 := by unfold wv; grind
        rw [e2]
        generalize h * p2 (n - 64) = X
        generalize l * p2 (n - 64) = Y
        unfold wv
        omega
      · rw [if_neg h3, if_pos (by omega), w64 (by omega) (by omega), if_pos (by omega), Bu (by omega) (by omega), Bu (by omega) (by omega), Dt (by omega) (by omega)]
        have hP := qz n
        have hQ := qz (64 - n)
        have hPQ : p2 n * p2 (64 - n) = 18446744073709551616 := by rw [← Be, ← xm (by omega) (by omega)]; congr 1; omega
        obtain ⟨c0, c1, d0, d1, el⟩ := Ez hl hP hQ hPQ
        obtain ⟨a0, a1, b0, b1, eh⟩ := Ez hh hP hQ hPQ
        obtain ⟨mh, mh0, mh1⟩ := Da hh hP hQ hPQ
        obtain ⟨ml, ml0, ml1⟩ := Da hl hP hQ hPQ
        rw [mh, ml]
        have hmod : h % p2 (64 - n) * p2 n % 2 ^ n.toNat = 0 := by
          show h % p2 (64 - n) * p2 n % p2 n = 0
          exact Int.mul_emod_left _ _
        rw [u64_or n.toNat mh0 hmod (by omega) c0 c1 (by omega)]
        refine ⟨_, _, rfl, ⟨by omega, by omega⟩, ⟨by omega, by omega⟩, ?_⟩
        have e : wv h l * p2 n = h / p2 (64 - n) * 340282366920938463463374607431768211456 + wv (h % p2 (64 - n) * p2 n + l / p2 (64 - n)) (l % p2 (64 - n) * p2 n) := by
          unfold wv
          generalize h / p2 (64 - n) = A at *
          generalize h % p2 (64 - n) = B at *
          generalize l / p2 (64 - n) = C at *
          generalize l % p2 (64 - n) = D at *
          generalize p2 n = P at *
          generalize p2 (64 - n) = Q at *
          subst eh el
          have : (340282366920938463463374607431768211456 : Int) = P * Q * (P * Q) := by rw [hPQ]; decide
          rw [this, ← hPQ]
          grind
        rw [e]
        have hr := Af (h := h % p2 (64 - n) * p2 n + l / p2 (64 - n)) (l := l % p2 (64 - n) * p2 n) ⟨by omega, by omega⟩ ⟨by omega, by omega⟩
        omega

theorem cut_div {v P : Int} (hP : 0 < P) : v / P * P = v - v % P := by have := Int.mul_ediv_add_emod v P; rw [Int.mul_comm] at this; omega
theorem C8 {h l n : Int} (hh : U h) (hl : U l) (hn : n ≤ 4611686018427387904) (hs : wv h l * p2 n < 340282366920938463463374607431768211456) : ∃ h' l', ic.f h l n = some (h', l') ∧ U h' ∧ U l' ∧ wv h' l' = wv h l * p2 n := by
  obtain ⟨h', l', e, u1, u2, ev⟩ := Er hh hl hn
  refine ⟨h', l', e, u1, u2, ?_⟩
  rw [ev, Int.emod_eq_of_lt (Int.mul_nonneg (Af hh hl).1 (Int.le_of_lt (qz n))) hs]

theorem Eg {h l n oh ol : Int} (hh : U h) (hl : U l) (ho : U oh) (ho' : U ol) (h1 : ¬ n ≤ 0) (hn : n ≤ 4611686018427387904) (ev : wv oh ol = wv h l / p2 n) :
    Ev (fun k => ax.j0 k n h l oh ol) (oh, ol, decide (wv h l % p2 n ≠ 0)) := by
  have hv := Af hh hl
  have hP := qz n
  have hr0 := Int.emod_nonneg (wv h l) (Int.ne_of_gt hP)
  have hc := cut_div (v := wv h l) hP
  have hle : wv oh ol * p2 n < 340282366920938463463374607431768211456 := by rw [ev, hc]; omega
  obtain ⟨h', l', e, u1, u2, ev2⟩ := C8 ho ho' hn hle
  refine Ev.succ ?_
  simp only [ax.j0]
  refine Ev.call e ?_
  dsimp only
  rw [ev, hc] at ev2
  by_cases hz : wv h l % p2 n = 0
  · have ee := wv_inj u1 u2 hh hl (by rw [ev2, hz]; omega)
    obtain ⟨rfl, rfl⟩ := ee
    refine Ev.neg (by simp) ?_
    rw [show decide (wv h' l' % p2 n ≠ 0) = false from by simp [hz]]
    by_cases h2 : n ≥ 128
    · refine Ev.pos h2 (Ev.call (yw hh hl) ?_)
      have : wv h' l' = 0 := by
        have := Int.emod_eq_of_lt hv.1 (show wv h' l' < p2 n from by have := Ag h2; rw [p2_128] at this; omega)
        omega
      rw [decide_eq_true this]
      exact Ev.now _
    · exact Ev.neg h2 (Ev.now _)
  · refine Ev.pos ?_ ?_
    · by_cases hc1 : h' = h
      · by_cases hc2 : l' = l
        · subst hc1 hc2; omega
        · simp [hc2]
      · simp [hc1]
    · rw [show decide (wv h l % p2 n ≠ 0) = true from by simp [hz]]
      exact Ev.now _
theorem Cb {h l n : Int} (hh : U h) (hl : U l) (hn : n ≤ 4611686018427387904) : ∃ h' l', Ev (fun k => ax.f k h l n) (h', l', decide (wv h l % p2 n ≠ 0)) ∧ U h' ∧ U l' ∧ wv h' l' = wv h l / p2 n := by
  have hv := Af hh hl
  unfold ax.f
  by_cases h1 : n ≤ 0
  · rw [p2_neg h1]
    refine ⟨h, l, ?_, hh, hl, by omega⟩
    rw [show decide (wv h l % 1 ≠ 0) = false from by simp]
    exact Ev.pos h1 (Ev.now _)
  · by_cases h2 : n ≥ 128
    · have e0 : wv 0 0 = wv h l / p2 n := by
        have : wv h l < p2 n := by have := Ag h2; rw [p2_128] at this; omega
        rw [Int.ediv_eq_zero_of_lt hv.1 this]; rfl
      have u0 : U 0 := ⟨by decide, by decide⟩
      exact ⟨0, 0, Ev.neg h1 (Ev.pos h2 (Eg hh hl u0 u0 h1 hn e0)), u0, u0, e0⟩
    · by_cases h3 : n ≥ 64
      · have u0 : U 0 := ⟨by decide, by decide⟩
        have hP := qz (n - 64)
        have hh' := hh
        obtain ⟨x0, x1⟩ := hh
        have u1 : U (h / p2 (n - 64)) := ⟨Int.ediv_nonneg x0 (Int.le_of_lt hP), by have := Int.ediv_le_self (p2 (n - 64)) x0; omega⟩
        have e0 : wv 0 (h / p2 (n - 64)) = wv h l / p2 n := by
          have e : p2 n = 18446744073709551616 * p2 (n - 64) := by rw [← Be, ← xm (by omega) (by omega)]; congr 1; omega
          have e3 : wv h l / 18446744073709551616 = h := by obtain ⟨y0, y1⟩ := hl; unfold wv; omega
          rw [e, ← Int.ediv_ediv_of_nonneg (by decide), e3]
          unfold wv; omega
        refine ⟨0, h / p2 (n - 64), Ev.neg h1 (Ev.neg h2 (Ev.pos h3 ?_)), u0, u1, e0⟩
        rw [w64 (by omega) (by omega), Dt (by omega) (by omega)]
        exact Ev.pos (by omega) (Eg hh' hl u0 u1 h1 hn e0)
      · have hP := qz n
        have hQ := qz (64 - n)
        have hQP : p2 (64 - n) * p2 n = 18446744073709551616 := by rw [← Be, ← xm (by omega) (by omega)]; congr 1; omega
        obtain ⟨c0, c1, d0, d1, el⟩ := Ez hl hQ hP hQP
        obtain ⟨a0, a1, b0, b1, eh⟩ := Ez hh hQ hP hQP
        obtain ⟨mh, mh0, mh1⟩ := Da hh hQ hP hQP
        have hP1 : 1 ≤ p2 n := hP
        have hQ1 : p2 (64 - n) ≤ 18446744073709551616 := by rw [← Be]; exact Ag (by omega)
        have u1 : U (h / p2 n) := ⟨a0, by omega⟩
        have u2 : U (h % p2 n * p2 (64 - n) + l / p2 n) := ⟨by omega, by omega⟩
        have e0 : wv (h / p2 n) (h % p2 n * p2 (64 - n) + l / p2 n) = wv h l / p2 n := by
          have e1 : wv h l = wv (h / p2 n) (h % p2 n * p2 (64 - n) + l / p2 n) * p2 n + l % p2 n := by
            unfold wv
            generalize h / p2 n = A at *
            generalize h % p2 n = B at *
            generalize l / p2 n = C at *
            generalize l % p2 n = D at *
            generalize p2 n = P at *
            generalize p2 (64 - n) = Q at *
            subst eh el
            rw [← hQP]
            grind
          rw [e1, Int.add_comm _ (l % p2 n), Int.add_mul_ediv_right _ _ (Int.ne_of_gt hP), Int.ediv_eq_zero_of_lt d0 d1, Int.zero_add]
        refine ⟨_, _, Ev.neg h1 (Ev.neg h2 (Ev.neg h3 (Ev.pos (by omega) ?_))), u1, u2, e0⟩
        rw [w64 (by omega) (by omega), Dt (by omega) (by omega), Bu (by omega) (by omega), Dt (by omega) (by omega), mh]
        have hmod : h % p2 n * p2 (64 - n) % 2 ^ (64 - n).toNat = 0 := by
          show h % p2 n * p2 (64 - n) % p2 (64 - n) = 0
          exact Int.mul_emod_left _ _
        rw [u64_or (64 - n).toNat mh0 hmod (by omega) c0 c1 (by omega)]
        exact Ev.pos (by omega) (Eg hh hl u1 u2 h1 hn e0)

theorem C9 {h l h' l' : Int} (hh : U h) (hl : U l) (hh' : U h') (hl' : U l') : ∃ a b, o8.f h l h' l' = some (a, b, decide (340282366920938463463374607431768211456 ≤ wv h l + wv h' l')) ∧ U a ∧ U b ∧ wv a b = (wv h l + wv h' l') % 340282366920938463463374607431768211456 := by
  obtain ⟨x0, x1⟩ := hh; obtain ⟨x2, x3⟩ := hl; obtain ⟨x4, x5⟩ := hh'; obtain ⟨x6, x7⟩ := hl'
  unfold o8.f bits_Add64.f
  rw [if_pos x2, if_pos x6, if_pos (by decide), if_pos (by decide)]
  simp only [Option.bind_some]
  rw [if_pos x0, if_pos x4, if_pos (by omega), if_pos (by omega)]
  simp only [Option.bind_some]
  refine ⟨_, _, congrArg some (Prod.ext rfl (Prod.ext rfl ?_)), ⟨by omega, by omega⟩, ⟨by omega, by omega⟩, ?_⟩
  · rw [Bool.eq_iff_iff]
    unfold wv
    simp
    omega
  · unfold wv
    omega

def jg (x : Int) : Int := if x ≤ 0 then 0 else (Nat.log2 x.toNat : Int) + 1
theorem zl {x : Int} (h : 0 < x) : 1 ≤ jg x ∧ p2 (jg x - 1) ≤ x ∧ x < p2 (jg x) := by
  unfold jg p2
  rw [if_neg (by omega)]
  obtain ⟨n, rfl⟩ := Int.eq_ofNat_of_zero_le (Int.le_of_lt h)
  have hn : n ≠ 0 := by omega
  have h1 := Nat.log2_self_le hn
  have h2 := Nat.lt_log2_self (n := n)
  simp only [Int.toNat_natCast]
  refine ⟨by omega, ?_, ?_⟩
  · rw [show ((n.log2 : Int) + 1 - 1).toNat = n.log2 from by omega]; exact_mod_cast h1
  · rw [show ((n.log2 : Int) + 1).toNat = n.log2 + 1 from by omega]; exact_mod_cast h2
theorem Aq (x : Int) : 0 ≤ jg x := by unfold jg; split <;> omega
theorem F4 {x L : Int} (hL : 1 ≤ L) (h1 : p2 (L - 1) ≤ x) (h2 : x < p2 L) : jg x = L := by
  have hx : 0 < x := by have := qz (L - 1); omega
  obtain ⟨b0, b1, b2⟩ := zl hx
  have h3 : ¬ jg x < L := fun hc => by have := Ag (show jg x ≤ L - 1 from by omega); omega
  have h4 : ¬ L < jg x := fun hc => by have := Ag (show L ≤ jg x - 1 from by omega); omega
  omega
theorem Bf {x s : Int} (hs : 0 ≤ s) (hx : p2 s ≤ x) : jg x = s + jg (x / p2 s) := by
  have hP := qz s
  have hq : 0 < x / p2 s := by have := Int.le_ediv_of_mul_le hP (show 1 * p2 s ≤ x from by omega); omega
  obtain ⟨b0, b1, b2⟩ := zl hq
  have e := Int.mul_ediv_add_emod x (p2 s)
  have r0 := Int.emod_nonneg x (Int.ne_of_gt hP)
  have r1 := Int.emod_lt_of_pos x hP
  refine F4 (by omega) ?_ ?_
  · have : p2 (s + jg (x / p2 s) - 1) = p2 s * p2 (jg (x / p2 s) - 1) := by rw [← xm hs (by omega)]; congr 1; omega
    rw [this]
    have := Int.mul_le_mul_of_nonneg_left b1 (Int.le_of_lt hP)
    omega
  · rw [xm hs (by omega)]
    have : p2 s * (x / p2 s + 1) ≤ p2 s * p2 (jg (x / p2 s)) := Int.mul_le_mul_of_nonneg_left b2 (Int.le_of_lt hP)
    have e2 : p2 s * (x / p2 s + 1) = p2 s * (x / p2 s) + p2 s := by grind
    omega
theorem Bp {x L : Int} (hL : 0 ≤ L) (h : x < p2 L) : jg x ≤ L := by
  by_cases hx : 0 < x
  · obtain ⟨b0, b1, b2⟩ := zl hx
    exact Int.not_lt.mp (fun hc => by have := Ag (show L ≤ jg x - 1 from by omega); omega)
  · unfold jg; rw [if_pos (by omega)]; exact hL
theorem blen_tab : ∀ i : Fin 256, bt (⟨#[0, 1, 2, 2, 3, 3, 3, 3, 4, 4, 4, 4, 4, 4, 4, 4, 5, 5, 5, 5, 5, 5, 5, 5, 5, 5, 5, 5, 5, 5, 5, 5, 6, 6, 6, 6, 6, 6, 6, 6, 6, 6, 6, 6, 6, 6, 6, 6, 6, 6, 6, 6, 6, 6, 6, 6, 6, 6, 6, 6, 6, 6, 6, 6, 7, 7, 7, 7, 7, 7, 7, 7, 7, 7, 7, 7, 7, 7, 7, 7, 7, 7, 7, 7, 7, 7, 7, 7, 7, 7, 7, 7, 7, 7, 7, 7, 7, 7, 7, 7, 7, 7, 7, 7, 7, 7, 7, 7, 7, 7, 7, 7, 7, 7, 7, 7, 7, 7, 7, 7, 7, 7, 7, 7, 7, 7, 7, 7, 8, 8, 8, 8, 8, 8, 8, 8, 8, 8, 8, 8, 8, 8, 8, 8, 8, 8, 8, 8, 8, 8, 8, 8, 8, 8, 8, 8, 8, 8, 8, 8, 8, 8, 8, 8, 8, 8, 8, 8, 8, 8, 8, 8, 8, 8, 8, 8, 8, 8, 8, 8, 8, 8, 8, 8, 8, 8, 8, 8, 8, 8, 8, 8, 8, 8, 8, 8, 8, 8, 8, 8, 8, 8, 8, 8, 8, 8, 8, 8, 8, 8, 8, 8, 8, 8, 8, 8, 8, 8, 8, 8, 8, 8, 8, 8, 8, 8, 8, 8, 8, 8, 8, 8, 8, 8, 8, 8, 8, 8, 8, 8, 8, 8, 8, 8, 8, 8, 8, 8, 8, 8, 8, 8, 8, 8, 8, 8]⟩ : ByteArray) (i.val : Int) = jg (i.val : Int) := by decide +kernel
theorem Bq {i : Int} (h0 : 0 ≤ i) (h1 : i < 256) : bt (⟨#[0, 1, 2, 2, 3, 3, 3, 3, 4, 4, 4, 4, 4, 4, 4, 4, 5, 5, 5, 5, 5, 5, 5, 5, 5, 5, 5, 5, 5, 5, 5, 5, 6, 6, 6, 6, 6, 6, 6, 6, 6, 6, 6, 6, 6, 6, 6, 6, 6, 6, 6, 6, 6, 6, 6, 6, 6, 6, 6, 6, 6, 6, 6, 6, 7, 7, 7, 7, 7, 7, 7, 7, 7, 7, 7, 7, 7, 7, 7, 7, 7, 7, 7, 7, 7, 7, 7, 7, 7, 7, 7, 7, 7, 7, 7, 7, 7, 7, 7, 7, 7, 7, 7, 7, 7, 7, 7, 7, 7, 7, 7, 7, 7, 7, 7, 7, 7, 7, 7, 7, 7, 7, 7, 7, 7, 7, 7, 7, 8, 8, 8, 8, 8, 8, 8, 8, 8, 8, 8, 8, 8, 8, 8, 8, 8, 8, 8, 8, 8, 8, 8, 8, 8, 8, 8, 8, 8, 8, 8, 8, 8, 8, 8, 8, 8, 8, 8, 8, 8, 8, 8, 8, 8, 8, 8, 8, 8, 8, 8, 8, 8, 8, 8, 8, 8, 8, 8, 8, 8, 8, 8, 8, 8, 8, 8, 8, 8, 8, 8, 8, 8, 8, 8, 8, 8, 8, 8, 8, 8, 8, 8, 8, 8, 8, 8, 8, 8, 8, 8, 8, 8, 8, 8, 8, 8, 8, 8, 8, 8, 8, 8, 8, 8, 8, 8, 8, 8, 8, 8, 8, 8, 8, 8, 8, 8, 8, 8, 8, 8, 8, 8, 8, 8, 8, 8, 8]⟩ : ByteArray) i = jg i := by
  obtain ⟨n, rfl⟩ := Int.eq_ofNat_of_zero_le h0
  exact blen_tab ⟨n, by omega⟩
set_option maxRecDepth 100000 in
theorem Eb {x s : Int} (h0 : 0 ≤ x) (h1 : x < 4294967296) (hs : 0 ≤ s) (hs' : s ≤ 64) : Ev (fun k => bits_Len64.j0 k x s) (s + jg x) := by
  refine Ev.succ ?_
  simp only [bits_Len64.j0]
  have q16 : p2 16 = 65536 := by decide
  have q8 : p2 8 = 256 := by decide
  by_cases c1 : x ≥ 65536
  · refine Ev.pos c1 ?_
    have e1 : jg x = 16 + jg (x / 65536) := by rw [← q16]; exact Bf (by decide) (by rw [q16]; exact c1)
    by_cases c2 : x / 65536 ≥ 256
    · refine Ev.pos c2 (Ev.pos (by omega) (Ev.pos (by omega) ?_))
      have e2 : jg (x / 65536) = 8 + jg (x / 65536 / 256) := by rw [← q8]; exact Bf (by decide) (by rw [q8]; exact c2)
      rw [Bq (by omega) (by omega), show x / 65536 / 256 % 256 = x / 65536 / 256 from by omega]
      have b1 := Aq (x / 65536 / 256)
      have b2 : jg (x / 65536 / 256) ≤ 8 := Bp (by decide) (by rw [q8]; omega)
      rw [w64 (x := jg _) (by omega) (by omega), w64 (x := s + 16) (by omega) (by omega), w64 (x := s + 16 + 8) (by omega) (by omega), w64 (by omega) (by omega), e1, e2]
      rw [show s + 16 + 8 + jg (x / 65536 / 256) = s + (16 + (8 + jg (x / 65536 / 256))) from by omega]
      exact Ev.now _
    · refine Ev.neg c2 (Ev.pos (by omega) (Ev.pos (by omega) ?_))
      rw [Bq (by omega) (by omega), show x / 65536 % 256 = x / 65536 from by omega]
      have b1 := Aq (x / 65536)
      have b2 : jg (x / 65536) ≤ 8 := Bp (by decide) (by rw [q8]; omega)
      rw [w64 (x := jg _) (by omega) (by omega), w64 (x := s + 16) (by omega) (by omega), w64 (by omega) (by omega), e1]
      rw [show s + 16 + jg (x / 65536) = s + (16 + jg (x / 65536)) from by omega]
      exact Ev.now _
  · refine Ev.neg c1 ?_
    by_cases c2 : x ≥ 256
    · refine Ev.pos c2 (Ev.pos (by omega) (Ev.pos (by omega) ?_))
      have e2 : jg x = 8 + jg (x / 256) := by rw [← q8]; exact Bf (by decide) (by rw [q8]; exact c2)
      rw [Bq (by omega) (by omega), show x / 256 % 256 = x / 256 from by omega]
      have b1 := Aq (x / 256)
      have b2 : jg (x / 256) ≤ 8 := Bp (by decide) (by rw [q8]; omega)
      rw [w64 (x := jg _) (by omega) (by omega), w64 (x := s + 8) (by omega) (by omega), w64 (by omega) (by omega), e2]
      rw [show s + 8 + jg (x / 256) = s + (8 + jg (x / 256)) from by omega]
      exact Ev.now _
    · refine Ev.neg c2 (Ev.pos (by omega) (Ev.pos (by omega) ?_))
      rw [Bq (by omega) (by omega), show x % 256 = x from by omega]
      have b1 := Aq x
      have b2 : jg x ≤ 8 := Bp (by decide) (by rw [q8]; omega)
      rw [w64 (x := jg _) (by omega) (by omega), w64 (by omega) (by omega)]
      exact Ev.now _
theorem Bv {x : Int} (h : U x) : Ev (fun k => bits_Len64.f k x) (jg x) := by
  obtain ⟨h0, h1⟩ := h
  unfold bits_Len64.f
  have q32 : p2 32 = 4294967296 := by decide
  by_cases c1 : x ≥ 4294967296
  · have e1 : jg x = 32 + jg (x / 4294967296) := by rw [← q32]; exact Bf (by decide) (by rw [q32]; exact c1)
    rw [e1]
    exact Ev.pos c1 (Eb (by omega) (by omega) (by decide) (by decide))
  · have := Eb (x := x) (s := 0) h0 (by omega) (by decide) (by decide)
    rw [Int.zero_add] at this
    exact Ev.neg c1 this
theorem Dm {h l : Int} (hh : U h) (hl : U l) : Ev (fun k => jd.f k h l) (jg (wv h l)) := by
  unfold jd.f
  have hx := hh
  obtain ⟨x0, x1⟩ := hh
  have hy := hl
  obtain ⟨y0, y1⟩ := hl
  by_cases c : h = 0
  · subst c
    rw [show wv 0 l = l from by unfold wv; omega]
    exact Ev.pos rfl (Ev.bind (Bv hy) (Ev.now _))
  · refine Ev.neg c (Ev.bind (Bv hx) ?_)
    have e1 : jg (wv h l) = 64 + jg (wv h l / 18446744073709551616) := by
      rw [← Be]; exact Bf (by decide) (by rw [Be]; unfold wv; omega)
    have e2 : wv h l / 18446744073709551616 = h := by unfold wv; omega
    have b1 := Aq h
    have b2 : jg h ≤ 64 := Bp (by decide) (by rw [Be]; omega)
    rw [e1, e2, w64 (by omega) (by omega)]
    exact Ev.now _
theorem blen_wv_le {h l : Int} (hh : U h) (hl : U l) : jg (wv h l) ≤ 128 := Bp (by decide) (by rw [p2_128]; exact (Af hh hl).2)
end Gim

end

section
namespace Gim
open Go Go.RowKit Go.Proofs.YtnjobojkoaknpaaDoorW.PrintWords Go.Proofs.YtnjobojkoaknpaaDoorW.PrintLast Go.Proofs.YtnjobojkoaknpaaDoorW.PrintMore Go.Proofs.YtnjobojkoaknpaaDoor.F
set_option linter.unusedVariables false

theorem u8_or_1 : bits .or .u8 0 1 = 1 := by decide
theorem u8_or_2 : bits .or .u8 1 2 = 3 := by decide
def fl (lost tiny : Bool) : Int := if lost then (if tiny then 3 else 1) else 0

theorem round_j6 (neg tiny lost : Bool) {q n : Int} (hq : -1074 ≤ q) (hq' : q ≤ 1000000) (hn : 0 ≤ n) (h1 : n < 9007199254740992) (h2 : q = -1074 ∨ 4503599627370496 ≤ n)
    (ht : tiny = true → enc q n < INF) :
    Ev (fun k => aj.j6 k neg q n (fl lost tiny)) (signed neg (if enc q n < INF then enc q n else INF), if enc q n < INF then fl lost tiny else 5) := by
  refine Ev.succ ?_
  simp only [aj.j6]
  have hU : U n := ⟨hn, by omega⟩
  have U0 : U 0 := ⟨by decide, by decide⟩
  by_cases ha : n < 4503599627370496
  · obtain rfl : q = -1074 := by omega
    have e : enc (-1074) n = n := by unfold enc; omega
    have hI : n < INF := by unfold INF; omega
    rw [e]
    simp only [if_pos hI]
    refine Ev.pos ha (Ev.call (zf neg (by decide) (by decide) hU) ?_)
    rw [show (0 : Int) * 4503599627370496 + n % 4503599627370496 = n from by omega]
    exact Ev.now _
  · refine Ev.neg ha ?_
    rw [w64 (x := q + 1075) (by omega) (by omega)]
    by_cases hb : q + 1075 ≥ 2047
    · have e : ¬ enc q n < INF := by unfold enc INF; omega
      simp only [if_neg e]
      refine Ev.pos hb (Ev.call (zf neg (by decide) (by decide) U0) ?_)
      have ht' : tiny = false := by
        cases tiny
        · rfl
        · exact absurd (ht rfl) e
      subst ht'
      have e2 : bits .or .u8 (bits .or .u8 (fl lost false) 4) 1 = 5 := by cases lost <;> decide
      rw [e2, show (2047 : Int) * 4503599627370496 + 0 % 4503599627370496 = INF from by decide]
      exact Ev.now _
    · have e : enc q n < INF := by unfold enc INF; omega
      simp only [if_pos e]
      refine Ev.neg hb (Ev.call (zf neg (by omega) (by omega) hU) ?_)
      rw [show (q + 1075) * 4503599627370496 + n % 4503599627370496 = enc q n from by unfold enc; omega]
      exact Ev.now _

theorem Hm (neg tiny lost : Bool) {E d q n hi : Int} (hE : -1000000 ≤ E) (hE' : E ≤ 1000000) (hd : -1000000 ≤ d) (hd' : d ≤ 1000000) (hqe : E + d = q) (hq : -1074 ≤ q) (hq' : q ≤ 200000) (hn : 0 ≤ n) (h1 : n ≤ 9007199254740992) (h2 : q = -1074 ∨ 4503599627370496 ≤ n)
    (ht : tiny = true → enc q n < INF) :
    Ev (fun k => aj.j4 k neg E d tiny lost hi n) (signed neg (if enc q n < INF then enc q n else INF), if enc q n < INF then fl lost tiny else 5) := by
  have j5 : ∀ q' n', -1074 ≤ q' → q' ≤ 1000000 → 0 ≤ n' → n' < 9007199254740992 → (q' = -1074 ∨ 4503599627370496 ≤ n') → enc q' n' = enc q n →
      Ev (fun k => aj.j5 k neg q' tiny lost n') (signed neg (if enc q n < INF then enc q n else INF), if enc q n < INF then fl lost tiny else 5) := by
    intro q' n' a b c d' e f
    refine Ev.succ ?_
    simp only [aj.j5]
    have h6 := round_j6 neg tiny lost a b c d' e (by rw [f]; exact ht)
    rw [f] at h6
    cases lost
    · refine Ev.neg (by decide) ?_
      exact h6
    · refine Ev.pos rfl ?_
      cases tiny
      · refine Ev.neg (by decide) ?_
        rw [u8_or_1]; exact h6
      · refine Ev.pos rfl ?_
        rw [u8_or_1, u8_or_2]; exact h6
  refine Ev.succ ?_
  simp only [aj.j4]
  rw [w64 (x := E + d) (by omega) (by omega), hqe]
  by_cases ha : n = 9007199254740992
  · subst ha
    refine Ev.pos rfl ?_
    rw [w64 (x := q + 1) (by omega) (by omega)]
    exact j5 (q + 1) _ (by omega) (by omega) (by decide) (by decide) (.inr (by decide)) (by unfold enc; omega)
  · exact Ev.neg ha (j5 q n hq (by omega) hn (by omega) h2 rfl)

theorem half_rest {W d : Int} (hW : 0 ≤ W) (hd : 0 < d) : (W / p2 (d - 1)) % 2 = (if p2 d ≤ 2 * (W % p2 d) then 1 else 0) ∧ W % p2 (d - 1) = (if p2 d ≤ 2 * (W % p2 d) then W % p2 d - p2 (d - 1) else W % p2 d) := by
  have hP := qz (d - 1)
  have e : p2 d = 2 * p2 (d - 1) := by rw [← Gc (by omega)]; congr 1; omega
  have m1 := Int.mul_ediv_add_emod W (p2 (d - 1))
  have r0 := Int.emod_nonneg W (Int.ne_of_gt hP)
  have r1 := Int.emod_lt_of_pos W hP
  have hD := qz d
  have m2 := Int.mul_ediv_add_emod W (p2 d)
  have s0 := Int.emod_nonneg W (Int.ne_of_gt hD)
  have s1 := Int.emod_lt_of_pos W hD
  have key : W % p2 d = (W / p2 (d - 1) % 2) * p2 (d - 1) + W % p2 (d - 1) := by
    have h2 : W / p2 (d - 1) = 2 * (W / p2 (d - 1) / 2) + W / p2 (d - 1) % 2 := by omega
    have h3 : W = (W / p2 (d - 1) % 2 * p2 (d - 1) + W % p2 (d - 1)) + p2 d * (W / p2 (d - 1) / 2) := by
      rw [e]
      generalize W / p2 (d - 1) / 2 = X at *
      generalize W / p2 (d - 1) % 2 = Y at *
      rw [h2] at m1
      grind
    have hb : 0 ≤ W / p2 (d - 1) % 2 ∧ W / p2 (d - 1) % 2 ≤ 1 := by omega
    have hb2 : W / p2 (d - 1) % 2 * p2 (d - 1) ≤ 1 * p2 (d - 1) := Int.mul_le_mul_of_nonneg_right hb.2 (Int.le_of_lt hP)
    have hb3 : 0 ≤ W / p2 (d - 1) % 2 * p2 (d - 1) := Int.mul_nonneg hb.1 (Int.le_of_lt hP)
    have := Int.add_mul_emod_self_left (W / p2 (d - 1) % 2 * p2 (d - 1) + W % p2 (d - 1)) (p2 d) (W / p2 (d - 1) / 2)
    rw [← h3] at this
    rw [this]
    exact Int.emod_eq_of_lt (by omega) (by omega)
  rcases (show W / p2 (d - 1) % 2 = 0 ∨ W / p2 (d - 1) % 2 = 1 from by omega) with hb | hb
  · rw [hb] at key
    rw [hb, if_neg (by omega), if_neg (by omega)]
    omega
  · rw [hb] at key
    rw [hb, if_pos (by omega), if_pos (by omega)]
    omega

theorem Gz {h l d : Int} (hh : U h) (hl : U l) (hW : 0 < wv h l) (hd : 0 < d) (hd' : d ≤ 1000000) :
    Ev (fun k => qo.f k h l d (decide (wv h l % p2 d ≠ 0))) (decide (p2 d ≤ 2 * (wv h l % p2 d)), if p2 d ≤ 2 * (wv h l % p2 d) then decide (wv h l % p2 d ≠ p2 (d - 1)) else decide (wv h l % p2 d ≠ 0)) := by
  have hv := Af hh hl
  unfold qo.f
  by_cases h1 : d > 128
  · have hm : wv h l % p2 d = wv h l := Int.emod_eq_of_lt hv.1 (by have := Ag (show 128 ≤ d from by omega); rw [p2_128] at this; omega)
    have hbig : ¬ p2 d ≤ 2 * (wv h l % p2 d) := by
      rw [hm]
      have := Ag (show 129 ≤ d from by omega)
      have e : p2 129 = 680564733841876926926749214863536422912 := by decide
      rw [e] at this
      omega
    rw [if_neg hbig, decide_eq_false hbig]
    exact Ev.pos h1 (Ev.now _)
  · refine Ev.neg h1 ?_
    obtain ⟨a, b, ev, u1, u2, e⟩ := Cb (n := d - 1) hh hl (by omega)
    rw [w64 (x := d - 1) (by omega) (by omega)]
    refine Ev.bind ev ?_
    dsimp only
    obtain ⟨k1, k2⟩ := half_rest hv.1 hd
    rw [u64_and1 u2.1 u2.2]
    have e1 : b % 2 = wv h l / p2 (d - 1) % 2 := by rw [← e]; unfold wv; omega
    rw [e1, k1, k2]
    have hP := qz (d - 1)
    by_cases hc : p2 d ≤ 2 * (wv h l % p2 d)
    · simp only [if_pos hc, decide_eq_true hc]
      have e2 : decide (wv h l % p2 d - p2 (d - 1) ≠ 0) = decide (wv h l % p2 d ≠ p2 (d - 1)) := by
        apply decide_eq_decide.mpr
        constructor <;> intro h <;> omega
      rw [e2]
      exact Ev.now _
    · simp only [if_neg hc, decide_eq_false hc]
      exact Ev.now _

def rup (W d : Int) (more : Bool) : Int := if p2 d ≤ 2 * (W % p2 d) ∧ (W % p2 d ≠ p2 (d - 1) ∨ more = true ∨ W / p2 d % 2 = 1) then W / p2 d + 1 else W / p2 d

theorem rup_rnd {W E d : Int} {more : Bool} {x : Rat} (hW : 0 < W) (hd : 0 < d) (hq : -1074 ≤ E + d) (hL : jg W - 53 ≤ d) (hq2 : E + d = -1074 ∨ d = jg W - 53)
    (hx0 : more = false → x = (W : Rat) * pw E) (hx1 : more = true → (W : Rat) * pw E < x ∧ x < (W + 1 : Int) * pw E) :
    Rnd x (E + d) (rup W d more) ∧ (x = (rup W d more : Rat) * pw (E + d) ↔ (W % p2 d = 0 ∧ more = false)) := by
  have hD := qz d
  have hP := qz (d - 1)
  have e : p2 d = 2 * p2 (d - 1) := by rw [← Gc (by omega)]; congr 1; omega
  have hu := zi E
  have hqD : pw (E + d) = (p2 d : Rat) * pw E := by rw [uj, Ao (a := d) (by omega), Rat.mul_comm]
  have m2 := Int.mul_ediv_add_emod W (p2 d)
  have s0 := Int.emod_nonneg W (Int.ne_of_gt hD)
  have s1 := Int.emod_lt_of_pos W hD
  obtain ⟨bl1, bl2, bl3⟩ := zl hW
  have hxlo : (W : Rat) * pw E ≤ x := by
    cases more
    · rw [hx0 rfl]; exact Rat.le_refl
    · exact Rat.le_of_lt (hx1 rfl).1
  have hxhi : x < (W + 1 : Int) * pw E := by
    cases more
    · rw [hx0 rfl]; exact qb.mpr (by omega)
    · exact (hx1 rfl).2
  have hpos : 0 < x := by
    have : (0 : Int) * pw E < (W : Rat) * pw E := qb.mpr hW
    grind
  -- a whole number times pw q, as one times pw E
  have hn : ∀ n : Int, (n : Rat) * pw (E + d) = (n * p2 d : Int) * pw E := by
    intro n; rw [hqD]; push_cast; grind
  have hlo : E + d = -1074 ∨ (4503599627370496 : Int) * pw (E + d) ≤ x := by
    rcases hq2 with h | h
    · exact .inl h
    · refine .inr (Rat.le_trans ?_ hxlo)
      rw [hn]
      apply si.mpr
      have e52 : (4503599627370496 : Int) = p2 52 := by decide
      rw [e52, ← xm (by decide) (by omega), show 52 + d = jg W - 1 from by omega]
      exact bl2
  have hhi : x < (9007199254740992 : Int) * pw (E + d) := by
    refine Std.lt_of_lt_of_le hxhi ?_
    rw [hn]
    apply si.mpr
    have e53 : (9007199254740992 : Int) = p2 53 := by decide
    rw [e53, ← xm (by decide) (by omega)]
    have := Ag (show jg W ≤ 53 + d from by omega)
    omega
  generalize hA : W / p2 d = A at *
  generalize hR : W % p2 d = R at *
  have two : ∀ {y z : Int}, y ≤ z → ((y : Int) : Rat) * pw E ≤ z * pw E := fun h => si.mpr h
  have x2 : (2 * W : Int) * pw E ≤ 2 * x := by push_cast; grind
  have x2' : 2 * x < (2 * W + 2 : Int) * pw E := by push_cast at hxhi ⊢; grind
  have ex0 : more = false → 2 * x = (2 * W : Int) * pw E := fun h => by rw [hx0 h]; push_cast; grind
  have ex1 : more = true → (2 * W : Int) * pw E < 2 * x := fun h => by have := (hx1 h).1; push_cast; grind
  by_cases hup : p2 d ≤ 2 * R ∧ (R ≠ p2 (d - 1) ∨ more = true ∨ A % 2 = 1)
  · have er : rup W d more = A + 1 := by unfold rup; rw [hA, hR, if_pos hup]
    rw [er]
    obtain ⟨u1, u2⟩ := hup
    have lt1 : 2 * x < (2 * (A + 1) + 1 : Int) * pw (E + d) := by
      rw [hn]
      refine Std.lt_of_lt_of_le x2' (two ?_)
      have : (2 * (A + 1) + 1) * p2 d = 2 * (p2 d * A) + 3 * p2 d := by grind
      omega
    have ge1 : (2 * (A + 1) - 1 : Int) * pw (E + d) ≤ 2 * x := by
      rw [hn]
      refine Rat.le_trans (two ?_) x2
      have : (2 * (A + 1) - 1) * p2 d = 2 * (p2 d * A) + p2 d := by grind
      omega
    refine ⟨⟨hq, hlo, hhi, hpos, Rat.le_of_lt lt1, ge1, fun h => absurd h (by grind), fun h => ?_⟩, ?_⟩
    · -- a tie: nothing more, and A is odd
      rw [hn] at h
      have t1 : (2 * (A + 1) - 1) * p2 d = 2 * (p2 d * A) + p2 d := by grind
      rw [t1] at h
      cases hm : more
      · rw [ex0 hm] at h
        have := Ai h
        rcases u2 with u2 | u2 | u2
        · omega
        · rw [hm] at u2; cases u2
        · omega
      · have h1 := ex1 hm
        rw [h] at h1
        have := qb.mp h1
        omega
    · constructor
      · intro h
        exfalso
        have h' : 2 * x = (2 * ((A + 1) * p2 d) : Int) * pw E := by rw [h, hn]; push_cast; grind
        have t1 : (A + 1) * p2 d = p2 d * A + p2 d := by grind
        rw [t1] at h'
        cases hm : more
        · rw [ex0 hm] at h'
          have := Ai h'
          omega
        · have h1 := ex1 hm
          have h2 := x2'
          rw [h'] at h1 h2
          have := qb.mp h1
          have := qb.mp h2
          omega
      · intro ⟨h1, _⟩; omega
  · have er : rup W d more = A := by unfold rup; rw [hA, hR, if_neg hup]
    rw [er]
    have hup' : ¬ p2 d ≤ 2 * R ∨ (R = p2 (d - 1) ∧ more = false ∧ A % 2 = 0) := by
      by_cases c : p2 d ≤ 2 * R
      · refine .inr ?_
        have c2 : ¬ (R ≠ p2 (d - 1) ∨ more = true ∨ A % 2 = 1) := fun h => hup ⟨c, h⟩
        refine ⟨?_, ?_, ?_⟩
        · exact Decidable.byContradiction fun h => c2 (.inl h)
        · cases more
          · rfl
          · exact absurd (.inr (.inl rfl)) c2
        · have : ¬ A % 2 = 1 := fun h => c2 (.inr (.inr h))
          omega
      · exact .inl c
    have t1 : (2 * A + 1) * p2 d = 2 * (p2 d * A) + p2 d := by grind
    have t2 : (2 * A - 1) * p2 d = 2 * (p2 d * A) - p2 d := by grind
    have le1 : 2 * x ≤ (2 * A + 1 : Int) * pw (E + d) := by
      rw [hn, t1]
      rcases hup' with h | ⟨h, hm, h2⟩
      · exact Rat.le_trans (Rat.le_of_lt x2') (two (by omega))
      · rw [ex0 hm]; exact two (by omega)
    have ge1 : (2 * A - 1 : Int) * pw (E + d) < 2 * x := by
      rw [hn, t2]
      exact Std.lt_of_lt_of_le (qb.mpr (by omega)) x2
    refine ⟨⟨hq, hlo, hhi, hpos, le1, Rat.le_of_lt ge1, fun h => ?_, fun h => absurd h (by grind)⟩, ?_⟩
    · rw [hn, t1] at h
      rcases hup' with h1 | ⟨h1, hm, h2⟩
      · exfalso
        have h2 := x2'
        rw [h] at h2
        have := qb.mp h2
        omega
      · exact h2
    · constructor
      · intro h
        have h' : 2 * x = (2 * (A * p2 d) : Int) * pw E := by rw [h, hn]; push_cast; grind
        have t3 : A * p2 d = p2 d * A := by grind
        rw [t3] at h'
        cases hm : more
        · rw [ex0 hm] at h'
          have := Ai h'
          exact ⟨by omega, rfl⟩
        · exfalso
          have h1 := ex1 hm
          have h2 := x2'
          rw [h'] at h1 h2
          have := qb.mp h1
          have := qb.mp h2
          omega
      · intro ⟨h1, hm⟩
        rw [hx0 hm, hn]
        congr 2
        have t3 : A * p2 d = p2 d * A := by grind
        rw [t3]
        omega

theorem tiny_enc {x : Rat} {q n : Int} (h : Rnd x q n) (hx : x < pw (-1022)) : enc q n < INF := by
  have h1 : Rnd (vm 4503599627370496) (xq 4503599627370496) (xx 4503599627370496) := Rnd.of_vm (by decide)
  have e : vm 4503599627370496 = pw (-1022) := by
    unfold vm
    have e1 : xx 4503599627370496 = 4503599627370496 := by decide
    have e2 : xq 4503599627370496 = -1074 := by decide
    rw [e1, e2]
    have e3 : (4503599627370496 : Int) = p2 52 := by decide
    rw [e3, ← Ao (by decide), ← uj]
    rfl
  have h2 := h.G6 h1 (by rw [e]; exact Rat.le_of_lt hx)
  rw [Dk _ (by decide)] at h2
  unfold INF
  omega

theorem Aa (neg : Bool) {h l E : Int} (hh : U h) (hl : U l) (hE : -100000 ≤ E) (hE' : E ≤ 100000) (more : Bool) {x : Rat} (hW : 0 < wv h l)
    (hx0 : more = false → x = (wv h l : Rat) * pw E) (hx1 : more = true → ((wv h l : Rat) * pw E < x ∧ x < (wv h l + 1 : Int) * pw E) ∧ 54 ≤ jg (wv h l)) :
    ∃ b f, Ev (fun k => aj.f k neg h l E more) (signed neg b, f) ∧ RB x b f := by
  have hv := Af hh hl
  obtain ⟨bl1, bl2, bl3⟩ := zl hW
  have bl4 := blen_wv_le hh hl
  generalize hWW : wv h l = W at *
  have emx : mx (-100000) (mn E 100000) = E := by unfold mx mn; grind
  have hu := zi E
  have hxlo : (W : Rat) * pw E ≤ x := by
    cases more
    · rw [hx0 rfl]; exact Rat.le_refl
    · exact Rat.le_of_lt (hx1 rfl).1.1
  have hxhi : x < (W + 1 : Int) * pw E := by
    cases more
    · rw [hx0 rfl]; exact qb.mpr (by omega)
    · exact (hx1 rfl).1.2
  have ht : decide (wrap64 (E + jg W) < -1021) = decide (x < pw (-1022)) := by
    rw [w64 (by omega) (by omega)]
    apply decide_eq_decide.mpr
    have hxl : pw (jg W - 1 + E) ≤ x := by
      refine Rat.le_trans ?_ hxlo
      rw [uj, Ao (a := jg W - 1) (by omega)]
      exact si.mpr bl2
    have hxr : x < pw (jg W + E) := by
      refine Std.lt_of_lt_of_le hxhi ?_
      rw [uj, Ao (a := jg W) (by omega)]
      exact si.mpr (by omega)
    constructor
    · intro h
      exact Std.lt_of_lt_of_le hxr (Bt (by omega))
    · intro h
      exact Decidable.byContradiction fun hc => by
        have := Bt (show -1022 ≤ jg W - 1 + E from by omega)
        grind
  -- from the number of bits that fall out on
  have main : ∀ d, -1074 ≤ E + d → jg W - 53 ≤ d → (E + d = -1074 ∨ d = jg W - 53) → d ≤ 200000 → -200 ≤ d →
      ∃ b f, Ev (fun k => aj.j0 k neg E more d (decide (x < pw (-1022))) h l) (signed neg b, f) ∧ RB x b f := by
    intro d hq hL hq2 hd1 hd2
    by_cases hd : d > 0
    · obtain ⟨hr, hex⟩ := rup_rnd hW hd hq hL hq2 hx0 (fun h => (hx1 h).1)
      refine ⟨_, _, ?_, ⟨_, _, hr, rfl, rfl⟩⟩
      obtain ⟨a, b, ev, u1, u2, ea⟩ := Cb (n := d) hh hl (by omega)
      have hsp := Gz hh hl (by rw [hWW]; exact hW) hd (by omega)
      rw [hWW] at ev hsp ea
      refine Ev.succ ?_
      simp only [aj.j0]
      refine Ev.pos hd (Ev.bind ev ?_)
      dsimp only
      refine Ev.bind hsp ?_
      dsimp only
      have hD := qz d
      have hP := qz (d - 1)
      have e : p2 d = 2 * p2 (d - 1) := by rw [← Gc (by omega)]; congr 1; omega
      have m2 := Int.mul_ediv_add_emod W (p2 d)
      have s0 := Int.emod_nonneg W (Int.ne_of_gt hD)
      have s1 := Int.emod_lt_of_pos W hD
      have hA0 : 0 ≤ W / p2 d := Int.ediv_nonneg (Int.le_of_lt hW) (Int.le_of_lt hD)
      have hA1 : W / p2 d < 9007199254740992 := by
        apply Int.ediv_lt_of_lt_mul hD
        have e53 : (9007199254740992 : Int) = p2 53 := by decide
        rw [e53, ← xm (by decide) (by omega)]
        have := Ag (show jg W ≤ 53 + d from by omega)
        omega
      have hb : b = W / p2 d ∧ a = 0 := by unfold wv at ea; obtain ⟨x1, x2⟩ := u1; obtain ⟨x3, x4⟩ := u2; omega
      obtain ⟨rfl, rfl⟩ := hb
      have nn := hr.Gu
      have nl := hr.n_le
      have ng := hr.n_ge'
      have tt : decide (x < pw (-1022)) = true → enc (E + d) (rup W d more) < INF := fun h => tiny_enc hr (of_decide_eq_true h)
      -- what is left: j2, with the answer on 'up'
      have j2 : ∀ lost : Bool, lost = decide (¬ (W % p2 d = 0 ∧ more = false)) → ∀ up : Bool, rup W d more = (if up then W / p2 d + 1 else W / p2 d) →
          Ev (fun k => aj.j2 k neg E d (decide (x < pw (-1022))) lost up 0 (W / p2 d)) (signed neg (if enc (E + d) (rup W d more) < INF then enc (E + d) (rup W d more) else INF),
            if enc (E + d) (rup W d more) < INF then (if x = (rup W d more : Rat) * pw (E + d) then 0 else if x < pw (-1022) then 3 else 1) else 5) := by
        intro lost hlost up hup
        have efl : fl lost (decide (x < pw (-1022))) = (if x = (rup W d more : Rat) * pw (E + d) then 0 else if x < pw (-1022) then 3 else 1) := by
          unfold fl
          by_cases c : W % p2 d = 0 ∧ more = false
          · rw [if_pos (hex.mpr c), hlost, decide_eq_false (by simpa using c)]
            rfl
          · rw [if_neg (fun h => c (hex.mp h)), hlost, decide_eq_true c]
            simp
        rw [← efl]
        refine Ev.succ ?_
        simp only [aj.j2]
        cases up
        · simp only [Bool.false_eq_true, if_false] at hup
          refine Ev.neg (by decide) ?_
          have := Hm neg (decide (x < pw (-1022))) lost (hi := 0) (by omega) (by omega) (by omega) (by omega) rfl hq (by omega) nn nl ng tt
          rw [hup] at this ⊢
          exact this
        · simp only [if_true] at hup
          have U0 : U 0 := ⟨by decide, by decide⟩
          have U1 : U 1 := ⟨by decide, by decide⟩
          obtain ⟨a', b', e1, v1, v2, e2⟩ := C9 (h := 0) (l := W / p2 d) (h' := 0) (l' := 1) U0 ⟨hA0, by omega⟩ U0 U1
          refine Ev.pos rfl (Ev.call e1 ?_)
          dsimp only
          have eb : b' = W / p2 d + 1 := by unfold wv at e2; obtain ⟨x1, x2⟩ := v1; obtain ⟨x3, x4⟩ := v2; omega
          rw [eb]
          have := Hm neg (decide (x < pw (-1022))) lost (hi := a') (by omega) (by omega) (by omega) (by omega) rfl hq (by omega) nn nl ng tt
          rw [hup] at this ⊢
          exact this
      -- j1
      by_cases hc : p2 d ≤ 2 * (W % p2 d)
      · have hne : W % p2 d ≠ 0 := by omega
        have hl1 : true = decide (¬ (W % p2 d = 0 ∧ more = false)) := by simp [hne]
        rw [if_pos hc, decide_eq_true hc]
        refine Ev.pos rfl (Ev.succ ?_)
        simp only [aj.j1]
        refine Ev.pos trivial ?_
        by_cases hc2 : W % p2 d ≠ p2 (d - 1)
        · rw [decide_eq_true hc2]
          refine Ev.pos rfl (j2 true hl1 true ?_)
          unfold rup; rw [if_pos ⟨hc, .inl hc2⟩]; rfl
        · rw [decide_eq_false hc2]
          refine Ev.neg (by decide) ?_
          by_cases hm : more = true
          · refine Ev.pos hm (j2 true hl1 true ?_)
            unfold rup; rw [if_pos ⟨hc, .inr (.inl hm)⟩]; rfl
          · refine Ev.neg hm ?_
            rw [u64_and1 hA0 (by omega)]
            refine j2 true hl1 _ ?_
            unfold rup
            by_cases hodd : W / p2 d % 2 = 1
            · rw [if_pos ⟨hc, .inr (.inr hodd)⟩]; simp [hodd]
            · have hno : ¬ (p2 d ≤ 2 * (W % p2 d) ∧ (W % p2 d ≠ p2 (d - 1) ∨ more = true ∨ W / p2 d % 2 = 1)) := by
                intro h
                rcases h.2 with h | h | h
                · exact hc2 h
                · exact hm h
                · exact hodd h
              rw [if_neg hno]; simp [hodd]
      · rw [if_neg hc, decide_eq_false hc]
        refine Ev.neg (by decide) ?_
        have er : rup W d more = W / p2 d := by unfold rup; rw [if_neg (fun h => hc h.1)]
        by_cases hz : W % p2 d = 0
        · rw [show decide (W % p2 d ≠ 0) = false from by simp [hz]]
          refine Ev.neg (by decide) (Ev.succ ?_)
          simp only [aj.j1]
          refine Ev.neg (by decide) (j2 more (by cases more <;> simp [hz]) false ?_)
          rw [er]; rfl
        · rw [show decide (W % p2 d ≠ 0) = true from by simp [hz]]
          refine Ev.pos rfl (Ev.succ ?_)
          simp only [aj.j1]
          refine Ev.neg (by decide) (j2 true (by simp [hz]) false ?_)
          rw [er]; rfl
    · -- nothing falls out
      have hm : more = false := by
        cases hm : more
        · rfl
        · have := (hx1 hm).2; omega
      have hP := qz (-d)
      have hx : x = ((W * p2 (-d) : Int) : Rat) * pw (E + d) := by
        rw [hx0 hm]
        have : pw E = (p2 (-d) : Rat) * pw (E + d) := by rw [← Ao (by omega), ← uj]; congr 1; omega
        rw [this]; push_cast; grind
      have hn1 : W * p2 (-d) < 9007199254740992 := by
        have e53 : (9007199254740992 : Int) = p2 (jg W) * p2 (53 - jg W) := by rw [← xm (by omega) (by omega), show jg W + (53 - jg W) = 53 from by omega]; decide
        have h1 : W * p2 (-d) < p2 (jg W) * p2 (-d) := Int.mul_lt_mul_of_pos_right bl3 hP
        have h2 : p2 (jg W) * p2 (-d) ≤ p2 (jg W) * p2 (53 - jg W) := Int.mul_le_mul_of_nonneg_left (Ag (by omega)) (Int.le_of_lt (qz _))
        omega
      have hn0 : 0 < W * p2 (-d) := Int.mul_pos hW hP
      have hng : E + d = -1074 ∨ 4503599627370496 ≤ W * p2 (-d) := by
        rcases hq2 with h | h
        · exact .inl h
        · refine .inr ?_
          have e52 : (4503599627370496 : Int) = p2 (jg W - 1) * p2 (-d) := by rw [← xm (by omega) (by omega), show jg W - 1 + -d = 52 from by omega]; decide
          rw [e52]
          exact Int.mul_le_mul_of_nonneg_right bl2 (Int.le_of_lt hP)
      have hr : Rnd x (E + d) (W * p2 (-d)) := by rw [hx]; exact Rnd.self hq hn0 hn1 hng
      refine ⟨_, _, ?_, ⟨_, _, hr, rfl, rfl⟩⟩
      have efl : fl false (decide (x < pw (-1022))) = (if x = ((W * p2 (-d) : Int) : Rat) * pw (E + d) then 0 else if x < pw (-1022) then 3 else 1) := by
        rw [if_pos hx]; rfl
      rw [← efl]
      have tt : decide (x < pw (-1022)) = true → enc (E + d) (W * p2 (-d)) < INF := fun h => tiny_enc hr (of_decide_eq_true h)
      have fin : ∀ hi, Ev (fun k => aj.j4 k neg E d (decide (x < pw (-1022))) false hi (W * p2 (-d))) _ := fun hi =>
        Hm neg (decide (x < pw (-1022))) false (hi := hi) (by omega) (by omega) (by omega) (by omega) rfl hq (by omega) (Int.le_of_lt hn0) (by omega) hng tt
      refine Ev.succ ?_
      simp only [aj.j0, hm]
      refine Ev.neg hd ?_
      by_cases hd0 : d < 0
      · refine Ev.pos hd0 (Ev.succ ?_)
        simp only [aj.j3]
        refine Ev.pos rfl ?_
        rw [w64 (x := -d) (by omega) (by omega)]
        obtain ⟨a', b', e1, v1, v2, e2⟩ := C8 (n := -d) hh hl (by omega) (by rw [hWW]; omega)
        refine Ev.call e1 ?_
        dsimp only
        have eb : b' = W * p2 (-d) := by rw [hWW] at e2; unfold wv at e2; obtain ⟨x1, x2⟩ := v1; obtain ⟨x3, x4⟩ := v2; omega
        rw [eb]
        exact fin a'
      · obtain rfl : d = 0 := by omega
        refine Ev.neg hd0 (Ev.succ ?_)
        simp only [aj.j3]
        refine Ev.neg (by decide) (Ev.neg (by decide) ?_)
        have e1 : W * p2 (-0) = l := by
          rw [show p2 (-0) = 1 from rfl, Int.mul_one]
          have : W < 9007199254740992 := by rw [show p2 (-0) = 1 from rfl, Int.mul_one] at hn1; exact hn1
          unfold wv at hWW; obtain ⟨x1, x2⟩ := hh; obtain ⟨x3, x4⟩ := hl; omega
        have := fin h
        rw [e1] at this ⊢
        exact this
  unfold aj.f
  have hz := yw hh hl
  rw [hWW, decide_eq_false (by omega)] at hz
  have hlen := Dm hh hl
  rw [hWW] at hlen
  rw [emx]
  have e1 : wrap64 (jg W - 53) = jg W - 53 := w64 (by omega) (by omega)
  have e2 : wrap64 (E + (jg W - 53)) = E + (jg W - 53) := w64 (by omega) (by omega)
  by_cases hs : E + (jg W - 53) < -1074
  · obtain ⟨b, f, ev, rb⟩ := main (-1074 - E) (by omega) (by omega) (.inl (by omega)) (by omega) (by omega)
    refine ⟨b, f, Ev.call hz (Ev.neg (by decide) (Ev.bind hlen (Ev.bind hlen ?_))), rb⟩
    rw [e1, e2, ht]
    exact Ev.pos hs ev
  · obtain ⟨b, f, ev, rb⟩ := main (jg W - 53) (by omega) (by omega) (.inr rfl) (by omega) (by omega)
    refine ⟨b, f, Ev.call hz (Ev.neg (by decide) (Ev.bind hlen (Ev.bind hlen ?_))), rb⟩
    rw [e1, e2, ht]
    exact Ev.neg hs ev
theorem Fj (neg : Bool) (E : Int) : Ev (fun k => aj.f k neg 0 0 E false) (signed neg 0, 0) := by
  have U0 : U 0 := ⟨by decide, by decide⟩
  unfold aj.f
  refine Ev.call (yw U0 U0) (Ev.pos (by decide) (Ev.neg (by decide) (Ev.call (zf neg (by decide) (by decide) U0) ?_)))
  exact Ev.now _
end Gim

end

section
namespace Gim
open Go Go.RowKit Go.Proofs.YtnjobojkoaknpaaDoorW.PrintWords Go.Proofs.YtnjobojkoaknpaaDoorW.PrintLast Go.Proofs.YtnjobojkoaknpaaDoorW.PrintMore Go.Proofs.YtnjobojkoaknpaaDoor.F
set_option linter.unusedVariables false

def mag (a : Int) : Int := a % 9223372036854775808
def neg (a : Int) : Bool := decide (9223372036854775808 ≤ a)
def fin (a : Int) : Prop := mag a < INF
def val (a : Int) : Rat := if neg a then -vm (mag a) else vm (mag a)
instance (a : Int) : Decidable (fin a) := by unfold fin; exact inferInstance

theorem yt {a : Int} : 0 ≤ mag a ∧ mag a < 9223372036854775808 := by unfold mag; omega
theorem zx {s : Bool} {m : Int} (h0 : 0 ≤ m) (h1 : m < 9223372036854775808) : mag (signed s m) = m := by unfold mag signed; cases s <;> simp <;> omega
theorem Em {s : Bool} {m : Int} (h0 : 0 ≤ m) (h1 : m < 9223372036854775808) : neg (signed s m) = s := by
  unfold neg signed
  cases s
  · simp; omega
  · simp; omega
theorem G7 {a : Int} (h : U a) : signed (neg a) (mag a) = a := by
  obtain ⟨h0, h1⟩ := h
  unfold signed neg mag
  by_cases c : 9223372036854775808 ≤ a
  · simp [c]; omega
  · simp [c]; omega
theorem Ch {s : Bool} {m : Int} (h0 : 0 ≤ m) (h1 : m < 9223372036854775808) : U (signed s m) := by
  unfold U signed; cases s <;> simp <;> omega
theorem U_flip {a : Int} (h : U a) : U (flip a) := by obtain ⟨h0, h1⟩ := h; unfold U flip; split <;> omega
theorem mag_flip {a : Int} (h : U a) : mag (flip a) = mag a := by obtain ⟨h0, h1⟩ := h; unfold mag flip; split <;> omega
theorem neg_flip {a : Int} (h : U a) : neg (flip a) = !neg a := by
  obtain ⟨h0, h1⟩ := h
  unfold neg flip
  by_cases c : a < 9223372036854775808
  · rw [if_pos c, decide_eq_true (by omega), decide_eq_false (by omega)]; rfl
  · rw [if_neg c, decide_eq_false (by omega), decide_eq_true (by omega)]; rfl
theorem val_flip {a : Int} (h : U a) : val (flip a) = -val a := by
  unfold val
  rw [mag_flip h, neg_flip h]
  cases neg a <;> simp
theorem Eh {s : Bool} {m : Int} (h0 : 0 ≤ m) (h1 : m < 9223372036854775808) : val (signed s m) = if s then -vm m else vm m := by
  unfold val; rw [zx h0 h1, Em h0 h1]
theorem qg {a : Int} : val a = 0 ↔ mag a = 0 := by
  unfold val
  have h0 := (yt (a := a)).1
  constructor
  · intro h
    by_cases hm : mag a = 0
    · exact hm
    · have := yh (m := mag a) (by omega)
      cases hn : neg a <;> simp [hn] at h <;> grind
  · intro h
    rw [h, Gd]
    cases neg a <;> simp
theorem val_abs (a : Int) : vm (mag a) = if val a < 0 then -val a else val a := by
  have h0 := Cc (yt (a := a)).1
  unfold val
  cases neg a <;> simp <;> grind

def jh (x : Rat) : Rat := if x < 0 then -x else x
theorem yo (x : Rat) : 0 ≤ jh x := by unfold jh; grind
theorem rabs_pos {x : Rat} (h : x ≠ 0) : 0 < jh x := by unfold jh; grind
theorem Ba (x : Rat) : jh (-x) = jh x := by unfold jh; grind
theorem G5 (X Y : Rat) : jh (X * Y) = jh X * jh Y := by
  unfold jh
  by_cases c1 : X < 0 <;> by_cases c2 : Y < 0
  · have := Rat.mul_pos (show 0 < -X by grind) (show 0 < -Y by grind)
    rw [if_pos c1, if_pos c2, if_neg (by grind)]; grind
  · have := Rat.mul_nonneg (show 0 ≤ -X by grind) (show 0 ≤ Y by grind)
    rw [if_pos c1, if_neg c2]
    by_cases c3 : X * Y < 0
    · rw [if_pos c3]; grind
    · rw [if_neg c3]; grind
  · have := Rat.mul_nonneg (show 0 ≤ X by grind) (show 0 ≤ -Y by grind)
    rw [if_neg c1, if_pos c2]
    by_cases c3 : X * Y < 0
    · rw [if_pos c3]; grind
    · rw [if_neg c3]; grind
  · have := Rat.mul_nonneg (show 0 ≤ X by grind) (show 0 ≤ Y by grind)
    rw [if_neg c1, if_neg c2, if_neg (by grind)]
theorem Gp (a : Int) : jh (val a) = vm (mag a) := (val_abs a).symm

structure Rd (x : Rat) (z : Bool) (r f : Int) : Prop where
  zero : x = 0 → r = signed z 0 ∧ f = 0
  num : x ≠ 0 → ∃ m, RB (jh x) m f ∧ r = signed (decide (x < 0)) m

theorem Rd.unique {x : Rat} {z : Bool} {r f r' f' : Int} (h : Rd x z r f) (h' : Rd x z r' f') : r = r' ∧ f = f' := by
  by_cases hx : x = 0
  · obtain ⟨rfl, rfl⟩ := h.zero hx
    obtain ⟨rfl, rfl⟩ := h'.zero hx
    exact ⟨rfl, rfl⟩
  · obtain ⟨m, h1, rfl⟩ := h.num hx
    obtain ⟨m', h1', rfl⟩ := h'.num hx
    obtain ⟨rfl, rfl⟩ := h1.unique h1'
    exact ⟨rfl, rfl⟩
theorem Rd.range {x : Rat} {z : Bool} {r f : Int} (h : Rd x z r f) : U r ∧ mag r ≤ INF := by
  by_cases hx : x = 0
  · obtain ⟨rfl, _⟩ := h.zero hx
    exact ⟨Ch (by decide) (by decide), by rw [zx (by decide) (by decide)]; decide⟩
  · obtain ⟨m, h1, rfl⟩ := h.num hx
    have := h1.range
    have hI : INF < 9223372036854775808 := by decide
    exact ⟨Ch this.1 (by omega), by rw [zx this.1 (by omega)]; exact this.2⟩
theorem Rd.sign {x : Rat} {z : Bool} {r f : Int} (h : Rd x z r f) : neg r = if x = 0 then z else decide (x < 0) := by
  by_cases hx : x = 0
  · obtain ⟨rfl, _⟩ := h.zero hx
    rw [if_pos hx, Em (by decide) (by decide)]
  · obtain ⟨m, h1, rfl⟩ := h.num hx
    have := h1.range
    have hI : INF < 9223372036854775808 := by decide
    rw [if_neg hx, Em this.1 (by omega)]
theorem Rd.self {a : Int} (ha : U a) (hf : fin a) (h0 : mag a ≠ 0) (z : Bool) : Rd (val a) z a 0 := by
  have hv : val a ≠ 0 := fun h => h0 (qg.mp h)
  have hm := (yt (a := a)).1
  refine ⟨fun h => absurd h hv, fun _ => ⟨mag a, ?_, ?_⟩⟩
  · rw [Gp]; exact RB.self (by omega) hf
  · have e : decide (val a < 0) = neg a := by
      have := yh (m := mag a) (by omega)
      unfold val
      cases neg a <;> simp <;> grind
    rw [e, G7 ha]
theorem Rd.exact {x : Rat} {z : Bool} {r : Int} (h : Rd x z r 0) : val r = x ∧ fin r := by
  have hI : INF < 9223372036854775808 := by decide
  by_cases hx : x = 0
  · obtain ⟨rfl, _⟩ := h.zero hx
    refine ⟨?_, ?_⟩
    · rw [Eh (by decide) (by decide), Gd, hx]; cases z <;> simp
    · unfold fin; rw [zx (by decide) (by decide)]; decide
  · obtain ⟨m, h1, rfl⟩ := h.num hx
    have hr := h1.range
    obtain ⟨q, n, hq, e1, e2⟩ := h1.ex
    by_cases c : enc q n < INF
    · rw [if_pos c] at e1 e2
      have e3 : jh x = (n : Rat) * pw q := by
        by_cases c2 : jh x = (n : Rat) * pw q
        · exact c2
        · rw [if_neg c2] at e2; split at e2 <;> omega
      subst e1
      refine ⟨?_, ?_⟩
      · rw [Eh hr.1 (by omega), hq.val_enc, ← e3]
        unfold jh
        by_cases c3 : x < 0
        · simp [c3]
        · simp [c3]
      · unfold fin; rw [zx hr.1 (by omega)]; exact c
    · rw [if_neg c] at e2; omega
end Gim

end

section
namespace Gim
open Go Go.RowKit Go.Proofs.YtnjobojkoaknpaaDoorW.PrintWords Go.Proofs.YtnjobojkoaknpaaDoorW.PrintLast Go.Proofs.YtnjobojkoaknpaaDoorW.PrintMore Go.Proofs.YtnjobojkoaknpaaDoor.F
set_option linter.unusedVariables false

theorem U_0 : U 0 := ⟨by decide, by decide⟩
theorem U_1 : U 1 := ⟨by decide, by decide⟩
def ll (a : Int) : Bool := decide (INF < mag a)
def Ci : Int := 9221120237041090560
def nanF (a b : Int) : Int := if signals a || signals b then 16 else 0

theorem Bd (a : Int) : kindOf (a % 9223372036854775808) = kindOf (mag a) := rfl
theorem kind_nan {a : Int} : kindOf (mag a) = 5 ↔ ll a = true := by rw [kind5 yt.1]; unfold ll INF; simp
theorem om {a : Int} : kindOf (mag a) = 4 ↔ mag a = INF := kind4 yt.1
theorem ry {a : Int} : kindOf (mag a) = 1 ↔ mag a = 0 := kind1
theorem signals_nan {a : Int} (h : signals a = true) : ll a = true := by unfold signals at h; unfold ll INF mag; simp at h ⊢; exact h.1
theorem wo {a : Int} (h : fin a) : ll a = false := by unfold fin at h; unfold ll; simp; omega
theorem expo_mono {m m' : Int} (h0 : 0 ≤ m) (h : m ≤ m') : xq m ≤ xq m' := by unfold xq; grind
theorem Ck {a : Int} (h : fin a) : -1074 ≤ xq (mag a) ∧ xq (mag a) ≤ 971 := by
  have h0 := (yt (a := a)).1
  unfold fin INF at h
  unfold xq
  split <;> omega
theorem wl64 {m : Int} (h0 : 0 ≤ m) (h1 : m < 18446744073709551616) : ic.f 0 m 64 = some (m, 0) := by
  obtain ⟨a, b, e, u1, u2, ev⟩ := Er (h := 0) (l := m) (n := 64) U_0 ⟨h0, h1⟩ (by decide)
  rw [e]
  have : wv m 0 = wv a b := by
    rw [ev, Be]
    unfold wv; omega
  obtain ⟨rfl, rfl⟩ := wv_inj ⟨h0, h1⟩ U_0 u1 u2 this
  rfl

theorem zw (a : Int) : val a = (if neg a then -1 else 1) * vm (mag a) := by unfold val; cases neg a <;> simp <;> grind


theorem Gi (a : Int) : decide (9223372036854775808 ≤ a) = neg a := rfl
theorem Ey (s : Bool) : ko.f s 2047 0 = some (signed s INF) := by
  rw [zf s (by decide) (by decide) U_0]; rfl
theorem Parts_fin {a : Int} (ha : U a) (fa : fin a) : ∃ m e, Ev (fun k => jf.f k a) (m, e) ∧ 0 ≤ m ∧ m < 9007199254740992 ∧ -1074 ≤ e ∧ e ≤ 971 ∧ vm (mag a) = (m : Rat) * pw e ∧ (m = 0 ↔ mag a = 0) := by
  have h0 := (yt (a := a)).1
  by_cases z : mag a = 0
  · refine ⟨0, 0, Cz ha (.inl z), by decide, by decide, by decide, by decide, ?_, by simp [z]⟩
    rw [z, Gd]; grind
  · have := Ck fa
    have hp := Bc (m := mag a) (by omega)
    exact ⟨xx (mag a), xq (mag a), yf ha (show 0 < mag a by omega) fa, by omega, Br, this.1, this.2, rfl, by constructor <;> intro h <;> omega⟩
theorem nan_or {a b : Int} (h : ¬ (ll a || ll b) = true) : (ll a || ll b) = false ∧ ll a = false ∧ ll b = false := by
  cases h1 : ll a <;> cases h2 : ll b <;> rw [h1, h2] at h <;> simp at h ⊢
theorem Bz {a : Int} (h1 : ll a = false) (h2 : mag a ≠ INF) : fin a := by
  unfold ll at h1; unfold fin; simp at h1; omega
theorem Ak {a : Int} (h : fin a) : mag a ≠ INF := by unfold fin at h; omega
theorem RB.flags {x : Rat} {b f : Int} (h : RB x b f) : 0 ≤ f ∧ f ≤ 16 := by
  obtain ⟨q, n, _, _, rfl⟩ := h.ex
  split
  · split
    · omega
    · split <;> omega
  · omega
theorem Rd.flags {x : Rat} {z : Bool} {r f : Int} (h : Rd x z r f) : 0 ≤ f ∧ f ≤ 16 := by
  by_cases hx : x = 0
  · have := (h.zero hx).2; omega
  · obtain ⟨m, rb, _⟩ := h.num hx; exact rb.flags
theorem nanF_le (a b : Int) : 0 ≤ nanF a b ∧ nanF a b ≤ 16 := by unfold nanF; split <;> omega

theorem Fe : 0 ≤ INF ∧ INF < 9223372036854775808 := by decide
def sgd (s : Bool) (X : Int) : Int := if s then -X else X
theorem Rd.any {x : Rat} {z z' : Bool} {r f : Int} (h : Rd x z r f) (hx : x ≠ 0) : Rd x z' r f := ⟨fun h => absurd h hx, h.num⟩
theorem int_pw_neg {S E : Int} : (S : Rat) * pw E < 0 ↔ S < 0 := by
  have := qb (a := S) (b := 0) (e := E)
  rw [← this]; simp
theorem int_pw_zero {S E : Int} : (S : Rat) * pw E = 0 ↔ S = 0 := by
  constructor
  · intro h; exact Ai (a := S) (b := 0) (e := E) (by rw [h]; simp)
  · intro h; rw [h]; simp
theorem rabs_sgd (s : Bool) {X E : Int} (hX : 0 ≤ X) : jh ((sgd s X : Rat) * pw E) = (X : Rat) * pw E := by
  have h0 : 0 ≤ (X : Rat) * pw E := by have := si (a := 0) (b := X) (e := E); simpa using this.mpr hX
  have e1 : jh ((X : Rat) * pw E) = (X : Rat) * pw E := by unfold jh; rw [if_neg (by grind)]
  unfold sgd
  cases s
  · exact e1
  · show jh (((-X : Int) : Rat) * pw E) = _
    have e2 : ((-X : Int) : Rat) * pw E = -((X : Rat) * pw E) := by push_cast; grind
    rw [e2, Ba, e1]
theorem val_mant (a : Int) : val a = (sgd (neg a) (xx (mag a)) : Rat) * pw (xq (mag a)) := by
  rw [zw]; unfold vm sgd; cases neg a <;> simp <;> grind
theorem mant_U (a : Int) : U (xx (mag a)) := ⟨Fx yt.1, by have := Br (m := mag a); omega⟩
theorem make_zero (s : Bool) : ko.f s 0 0 = some (signed s 0) := by
  rw [zf s (by decide) (by decide) U_0]; rfl
end Gim

end

section
namespace Gim
open Go Go.RowKit Go.Proofs.YtnjobojkoaknpaaDoorW.PrintWords Go.Proofs.YtnjobojkoaknpaaDoorW.PrintLast Go.Proofs.YtnjobojkoaknpaaDoorW.PrintMore Go.Proofs.YtnjobojkoaknpaaDoor.F
set_option linter.unusedVariables false

theorem D8 {l : List Int} {i n f : Int} {s : Bool} {r : Int × Int × Bool} (h0 : 0 ≤ i) (h1 : i < n) (h2 : i < (l.length : Int)) (hn : n ≤ 1000) (hU : U (rd l i))
    (h : Ev (fun k => jc.l0 k (if signals (rd l i) then 16 else f) (s || ll (rd l i)) l n (i + 1)) r) : Ev (fun k => jc.l0 k f s l n i) r := by
  refine Ev.succ ?_
  simp only [jc.l0]
  rw [w64 (x := i + 1) (by omega) (by omega)]
  refine Ev.pos h1 (Ev.pos h0 (Ev.pos h2 (Ev.bind (qi hU) ?_)))
  rw [Bd]
  by_cases hk : kindOf (mag (rd l i)) = 5
  · refine Ev.pos hk (Ev.bind (Gb hU) ?_)
    rw [kind_nan.mp hk] at h
    by_cases hs : signals (rd l i) = true
    · rw [if_pos hs] at h
      refine Ev.pos hs ?_
      rw [Bool.or_true] at h; exact h
    · rw [if_neg hs] at h
      refine Ev.neg hs ?_
      rw [Bool.or_true] at h; exact h
  · refine Ev.neg hk ?_
    have hn : ll (rd l i) = false := by
      cases hc : ll (rd l i)
      · rfl
      · exact absurd (kind_nan.mpr hc) hk
    have hs : signals (rd l i) = false := by
      cases hc : signals (rd l i)
      · rfl
      · have := signals_nan hc; rw [hn] at this; cases this
    rw [hn, hs] at h
    simpa using h
theorem soft_nan_end {l : List Int} {i n f : Int} {s : Bool} (h1 : ¬ i < n) : Ev (fun k => jc.l0 k f s l n i) (Ci, f, s) := by
  refine Ev.succ ?_
  simp only [jc.l0]
  exact Ev.neg h1 (Ev.now _)
theorem Ay {a b : Int} (ha : U a) (hb : U b) : Ev (fun k => jc.f k [a, b]) (Ci, nanF a b, ll a || ll b) := by
  unfold jc.f
  refine D8 (by decide) (by simp) (by simp) (by simp) ha ?_
  refine D8 (by decide) (by simp) (by simp) (by simp) hb ?_
  have e : (if signals (rd [a, b] (0 + 1)) then (16 : Int) else if signals (rd [a, b] 0) then 16 else 0) = nanF a b := by
    show (if signals b then (16 : Int) else if signals a then 16 else 0) = nanF a b
    unfold nanF
    cases signals a <;> cases signals b <;> rfl
  have e2 : (false || ll (rd [a, b] 0) || ll (rd [a, b] (0 + 1))) = (ll a || ll b) := by
    show (false || ll a || ll b) = _
    rw [Bool.false_or]
  rw [e, e2]
  exact soft_nan_end (by simp)

end Gim

end

section
namespace Gim
open Go Go.RowKit Go.Proofs.YtnjobojkoaknpaaDoorW.PrintWords Go.Proofs.YtnjobojkoaknpaaDoorW.PrintLast Go.Proofs.YtnjobojkoaknpaaDoorW.PrintMore Go.Proofs.YtnjobojkoaknpaaDoor.F
set_option linter.unusedVariables false

theorem add_nan {a b : Int} (ha : U a) (hb : U b) (h : (ll a || ll b) = true) : Ev (fun k => bi.f k a b) (Ci, nanF a b) := by
  unfold bi.f
  refine Ev.bind (Ay ha hb) ?_
  exact Ev.pos h (Ev.now _)
theorem Du {a b : Int} (ha : U a) (hb : U b) (h : (ll a || ll b) = false) {r : Int × Int}
    (hk : Ev (fun k => bi.j0 k a b (kindOf (mag a)) (kindOf (mag b)) (if kindOf (mag a) = 4 then (if kindOf (mag b) = 4 then a != b else false) else false)) r) : Ev (fun k => bi.f k a b) r := by
  unfold bi.f
  refine Ev.bind (Ay ha hb) (Ev.neg (by simp only [h]; decide) (Ev.bind (qi ha) (Ev.bind (qi hb) ?_)))
  rw [Bd, Bd]
  by_cases c1 : kindOf (mag a) = 4
  · by_cases c2 : kindOf (mag b) = 4
    · rw [if_pos c1, if_pos c2] at hk; exact Ev.pos c1 (Ev.pos c2 hk)
    · rw [if_pos c1, if_neg c2] at hk; exact Ev.pos c1 (Ev.neg c2 hk)
  · rw [if_neg c1] at hk; exact Ev.neg c1 hk
theorem add_inf2 {a b : Int} (ha : U a) (hb : U b) (h1 : mag a = INF) (h2 : mag b = INF) (h3 : a ≠ b) : Ev (fun k => bi.f k a b) (Ci, 16) := by
  refine Du ha hb (by unfold ll; rw [h1, h2]; decide) ?_
  rw [if_pos (om.mpr h1), if_pos (om.mpr h2)]
  refine Ev.succ ?_
  simp only [bi.j0]
  exact Ev.pos (by simp [h3]) (Ev.now _)
theorem add_infa {a b : Int} (ha : U a) (hb : U b) (h1 : mag a = INF) (h2 : ll b = false) (h3 : a = b ∨ mag b ≠ INF) : Ev (fun k => bi.f k a b) (a, 0) := by
  refine Du ha hb (by rw [h2]; unfold ll; rw [h1]; decide) ?_
  refine Ev.succ ?_
  simp only [bi.j0]
  refine Ev.neg ?_ (Ev.pos (om.mpr h1) (Ev.now _))
  rw [if_pos (om.mpr h1)]
  rcases h3 with h3 | h3
  · subst h3; simp
  · rw [if_neg (fun h => h3 (om.mp h))]; decide
theorem add_infb {a b : Int} (ha : U a) (hb : U b) (h1 : fin a) (h2 : mag b = INF) : Ev (fun k => bi.f k a b) (b, 0) := by
  have hn : kindOf (mag a) ≠ 4 := fun h => by have := om.mp h; unfold fin at h1; omega
  refine Du ha hb (by rw [wo h1]; unfold ll; rw [h2]; decide) ?_
  refine Ev.succ ?_
  simp only [bi.j0]
  rw [if_neg hn]
  exact Ev.neg (by decide) (Ev.neg hn (Ev.pos (om.mpr h2) (Ev.now _)))

theorem wide_Sub_eq {h l h' l' : Int} (hh : U h) (hl : U l) (hh' : U h') (hl' : U l') (hle : wv h' l' ≤ wv h l) : ∃ a b, xc.f h l h' l' = some (a, b, false) ∧ U a ∧ U b ∧ wv a b = wv h l - wv h' l' := by
  obtain ⟨x0, x1⟩ := hh; obtain ⟨x2, x3⟩ := hl; obtain ⟨x4, x5⟩ := hh'; obtain ⟨x6, x7⟩ := hl'
  unfold xc.f bits_Sub64.f
  rw [if_pos ⟨x2, x6, x7, by decide, by decide⟩]
  simp only [Option.bind_some]
  unfold wv at hle
  by_cases c : l < l' + 0
  · rw [if_pos c, if_pos ⟨x0, x4, x5, by decide, by decide⟩]
    simp only [Option.bind_some]
    refine ⟨_, _, congrArg some (Prod.ext rfl (Prod.ext rfl ?_)), ⟨by omega, by omega⟩, ⟨by omega, by omega⟩, ?_⟩
    · rw [if_neg (by omega)]; rfl
    · unfold wv; omega
  · rw [if_neg c, if_pos ⟨x0, x4, x5, by decide, by decide⟩]
    simp only [Option.bind_some]
    refine ⟨_, _, congrArg some (Prod.ext rfl (Prod.ext rfl ?_)), ⟨by omega, by omega⟩, ⟨by omega, by omega⟩, ?_⟩
    · rw [if_neg (by omega)]; rfl
    · unfold wv; omega
theorem add_j2 {a b : Int} (ha : U a) (hb : U b) (fa : fin a) (fb : fin b) (za : 0 < mag a) (zb : 0 < mag b) (hle : mag b ≤ mag a) :
    ∃ r f, Ev (fun k => bi.j2 k a b) (r, f) ∧ Rd (val a + val b) (neg a && neg b) r f := by
  have pa := yf ha za fa
  have pb := yf hb zb fb
  obtain ⟨ea1, ea2⟩ := Ck fa
  obtain ⟨eb1, eb2⟩ := Ck fb
  have hex : xq (mag b) ≤ xq (mag a) := expo_mono (by omega) hle
  have ma := Bc za
  have ma' := Br (m := mag a)
  have mga := mant_ge (m := mag a) (by omega)
  have mb := Bc zb
  have mb' := Br (m := mag b)
  have va : vm (mag a) = (xx (mag a) : Rat) * pw (xq (mag a)) := rfl
  have vb : vm (mag b) = (xx (mag b) : Rat) * pw (xq (mag b)) := rfl
  have hvle : vm (mag b) ≤ vm (mag a) := vm_mono (by omega) hle
  generalize hM : xx (mag a) = M at *
  generalize hN : xx (mag b) = N at *
  generalize hE : xq (mag a) = E at *
  generalize hG : xq (mag b) = G at *
  have emag : ∀ c : Int, c % 9223372036854775808 = mag c := fun _ => rfl
  rw [emag, hM, hE] at pa
  rw [emag, hN, hG] at pb
  have UM : U M := ⟨by omega, by omega⟩
  have UN : U N := ⟨by omega, by omega⟩
  obtain ⟨qh, ql, evq, uq1, uq2, eq⟩ := Cb (h := N) (l := 0) (n := E - G) UN U_0 (by omega)
  have wN : wv N 0 = N * 18446744073709551616 := by unfold wv; omega
  have wM : wv M 0 = M * 18446744073709551616 := by unfold wv; omega
  rw [wN] at evq eq
  have hP := qz (E - G)
  have dm := Int.mul_ediv_add_emod (N * 18446744073709551616) (p2 (E - G))
  have r0 := Int.emod_nonneg (N * 18446744073709551616) (Int.ne_of_gt hP)
  have r1 := Int.emod_lt_of_pos (N * 18446744073709551616) hP
  have q0 : 0 ≤ N * 18446744073709551616 / p2 (E - G) := Int.ediv_nonneg (by omega) (Int.le_of_lt hP)
  have q1 : N * 18446744073709551616 / p2 (E - G) ≤ N * 18446744073709551616 := Int.ediv_le_self _ (by omega)
  generalize hQ : N * 18446744073709551616 / p2 (E - G) = Q at *
  generalize hR : N * 18446744073709551616 % p2 (E - G) = R at *
  -- in units of 2^(E - 64)
  have hu := zi (E - 64)
  have uE : pw E = (18446744073709551616 : Int) * pw (E - 64) := by
    rw [show (18446744073709551616 : Int) = p2 64 from rfl, ← Ao (by decide), ← uj]; congr 1; omega
  have uG : (N : Rat) * pw G * (p2 (E - G) : Rat) = (N * 18446744073709551616 : Int) * pw (E - 64) := by
    have : pw G * (p2 (E - G) : Rat) = pw E := by rw [← Ao (by omega), ← uj]; congr 1; omega
    rw [Rat.mul_assoc, this, uE]; push_cast; grind
  have hPr : (0 : Rat) < (p2 (E - G) : Rat) := by exact_mod_cast hP
  -- the lesser one lies between Q and Q + 1
  have hlow0 : R = 0 → (N : Rat) * pw G = (Q : Rat) * pw (E - 64) := by
    intro h
    have h1 : (N * 18446744073709551616 : Int) = p2 (E - G) * Q := by omega
    rw [h1] at uG
    have h2 : (p2 (E - G) : Rat) * ((N : Rat) * pw G) = (p2 (E - G) : Rat) * ((Q : Rat) * pw (E - 64)) := by push_cast at uG; grind
    exact Rat.le_antisymm (Rat.le_of_mul_le_mul_left (by rw [h2]; exact Rat.le_refl) hPr) (Rat.le_of_mul_le_mul_left (by rw [h2]; exact Rat.le_refl) hPr)
  have hlow1 : R ≠ 0 → (Q : Rat) * pw (E - 64) < (N : Rat) * pw G ∧ (N : Rat) * pw G < (Q + 1 : Int) * pw (E - 64) := by
    intro h
    constructor
    · refine Rat.lt_of_mul_lt_mul_left (c := (p2 (E - G) : Rat)) ?_ (Rat.le_of_lt hPr)
      have h1 : (p2 (E - G) * Q : Int) * pw (E - 64) < (N * 18446744073709551616 : Int) * pw (E - 64) := qb.mpr (by omega)
      rw [← uG] at h1
      push_cast at h1; grind
    · refine Rat.lt_of_mul_lt_mul_left (c := (p2 (E - G) : Rat)) ?_ (Rat.le_of_lt hPr)
      have e2 : p2 (E - G) * (Q + 1) = p2 (E - G) * Q + p2 (E - G) := by grind
      have h1 : (N * 18446744073709551616 : Int) * pw (E - 64) < (p2 (E - G) * (Q + 1) : Int) * pw (E - 64) := qb.mpr (by omega)
      rw [← uG] at h1
      push_cast at h1 ⊢; grind
  have hbig : R ≠ 0 → 4503599627370496 ≤ M ∧ Q < 9007199254740992 := by
    intro h
    have hlt : 64 < E - G := by
      refine Decidable.byContradiction fun hc => h ?_
      have : (18446744073709551616 : Int) = p2 (64 - (E - G)) * p2 (E - G) := by rw [← Be, ← xm (by omega) (by omega)]; congr 1; omega
      rw [← hR, this, ← Int.mul_assoc]
      exact Int.mul_emod_left _ _
    refine ⟨by omega, ?_⟩
    rw [← hQ]
    apply Int.ediv_lt_of_lt_mul hP
    have h64 : 18446744073709551616 ≤ p2 (E - G) := by rw [← Be]; exact Ag (by omega)
    have := Int.mul_le_mul_of_nonneg_left h64 (show (0 : Int) ≤ 9007199254740992 by decide)
    omega
  refine Exists.elim (?_ : ∃ rf : Int × Int, Ev (fun k => bi.j2 k a b) rf ∧ Rd (val a + val b) (neg a && neg b) rf.1 rf.2) (fun rf h => ⟨rf.1, rf.2, h⟩)
  have aM : (M : Rat) * pw E = (M * 18446744073709551616 : Int) * pw (E - 64) := by rw [uE]; push_cast; grind
  -- the head of j2
  have start : ∀ rf : Int × Int, Ev (fun k => if (neg a == neg b) = true then ((o8.f M 0 qh ql).bind fun bt189 => ((lh.f a).bind fun t193 => ((aj.f k t193 bt189.1 bt189.2.1 (E - 64) (decide (R ≠ 0))).bind fun bt194 => (some (bt194.1, bt194.2)))))
      else (if decide (R ≠ 0) = true then ((o8.f qh ql 0 1).bind fun bt196 => (bi.j3 k a E (decide (R ≠ 0)) M 0 bt196.1 bt196.2.1)) else (bi.j3 k a E (decide (R ≠ 0)) M 0 qh ql))) rf → Ev (fun k => bi.j2 k a b) rf := by
    intro rf h
    refine Ev.succ ?_
    simp only [bi.j2]
    refine Ev.bind pa (Ev.bind pb (Ev.call (wl64 (by omega) (by omega)) (Ev.call (wl64 (by omega) (by omega)) ?_)))
    dsimp only
    rw [w64 (x := E - G) (by omega) (by omega), w64 (x := E - 64) (by omega) (by omega)]
    refine Ev.bind evq (Ev.call (wu ha) (Ev.call (wu hb) ?_))
    exact h
  by_cases hs : neg a = neg b
  · -- like signs
    obtain ⟨sh, sl, es, us1, us2, ev⟩ := C9 UM U_0 uq1 uq2
    rw [wM, eq] at ev es
    have evs : wv sh sl = M * 18446744073709551616 + Q := by rw [ev]; exact Int.emod_eq_of_lt (by omega) (by omega)
    have hx : jh (val a + val b) = vm (mag a) + vm (mag b) := by
      have := yh za; have := yh zb
      rw [zw a, zw b, ← hs]
      unfold jh
      cases neg a <;> simp <;> grind
    have hne : val a + val b ≠ 0 := by
      have := yh za; have := yh zb
      intro h
      rw [h] at hx
      have : jh 0 = 0 := rfl
      grind
    have hsg : decide (val a + val b < 0) = neg a := by
      have := yh za; have := yh zb
      rw [zw a, zw b, ← hs]
      cases neg a <;> simp <;> grind
    have hblen : 54 ≤ jg (M * 18446744073709551616 + Q) := by
      obtain ⟨b1, b2, b3⟩ := zl (x := M * 18446744073709551616 + Q) (by omega)
      refine Decidable.byContradiction fun hc => ?_
      have := Ag (show jg (M * 18446744073709551616 + Q) ≤ 53 from by omega)
      have e53 : p2 53 = 9007199254740992 := by decide
      omega
    obtain ⟨m, f, er, rb⟩ := Aa (neg a) us1 us2 (E := E - 64) (by omega) (by omega) (decide (R ≠ 0)) (x := vm (mag a) + vm (mag b)) (by omega)
      (by intro h; have h : R = 0 := by simpa using h
          rw [va, vb, hlow0 h, aM, evs]; push_cast; grind)
      (by intro h; have h : R ≠ 0 := by simpa using h
          refine ⟨?_, by rw [evs]; exact hblen⟩
          obtain ⟨l1, l2⟩ := hlow1 h
          rw [va, vb, aM, evs]
          push_cast at l2 ⊢
          constructor <;> grind)
    refine ⟨(signed (neg a) m, f), start _ (Ev.pos (by simp [hs]) (Ev.call es (Ev.call (wu ha) ?_))), ⟨fun h => absurd h hne, fun _ => ⟨m, by rw [hx]; exact rb, by rw [hsg]⟩⟩⟩
    dsimp only
    exact Ev.bind er (Ev.now _)
  · -- unlike signs
    have hz : (neg a && neg b) = false := by revert hs; cases neg a <;> cases neg b <;> simp
    have hx : jh (val a + val b) = vm (mag a) - vm (mag b) := by
      have := yh za; have := yh zb
      rw [zw a, zw b]
      unfold jh
      revert hs
      cases neg a <;> cases neg b <;> simp <;> grind
    have hsg : val a + val b ≠ 0 → decide (val a + val b < 0) = neg a := by
      have := yh za; have := yh zb
      rw [zw a, zw b]
      revert hs
      cases neg a <;> cases neg b <;> simp <;> grind
    have tail : ∀ (sh sl : Int), U sh → U sl → ∀ low : Bool, low = decide (R ≠ 0) → wv sh sl = M * 18446744073709551616 - (if R = 0 then Q else Q + 1) → ¬ (wv sh sl = 0 ∧ low = false) →
        ∃ rf : Int × Int, Ev (fun k => bi.j4 k a E low false sh sl) rf ∧ Rd (val a + val b) (neg a && neg b) rf.1 rf.2 := by
      intro sh sl us1 us2 low hl evs hnz
      have hpos : 0 < wv sh sl := by
        have := (Af us1 us2).1
        by_cases c : R = 0
        · have hl' : low = false := by rw [hl]; simp [c]
          have : wv sh sl ≠ 0 := fun h => hnz ⟨h, hl'⟩
          omega
        · obtain ⟨b1, b2⟩ := hbig c
          rw [if_neg c] at evs
          omega
      have hblen : R ≠ 0 → 54 ≤ jg (wv sh sl) := by
        intro c
        obtain ⟨b1, b2⟩ := hbig c
        rw [if_neg c] at evs
        obtain ⟨c1, c2, c3⟩ := zl hpos
        refine Decidable.byContradiction fun hc => ?_
        have := Ag (show jg (wv sh sl) ≤ 53 from by omega)
        have e53 : p2 53 = 9007199254740992 := by decide
        omega
      obtain ⟨m, f, er, rb⟩ := Aa (neg a) us1 us2 (E := E - 64) (by omega) (by omega) low (x := vm (mag a) - vm (mag b)) hpos
        (by intro h; have h : R = 0 := by rw [hl] at h; simpa using h
            rw [if_pos h] at evs
            rw [va, vb, hlow0 h, aM, evs]; push_cast; grind)
        (by intro h; have h : R ≠ 0 := by rw [hl] at h; simpa using h
            refine ⟨?_, hblen h⟩
            rw [if_neg h] at evs
            obtain ⟨l1, l2⟩ := hlow1 h
            rw [va, vb, aM, evs]
            push_cast at l2 ⊢
            constructor <;> grind)
      have hxne : val a + val b ≠ 0 := by
        intro h
        have h1 : jh (val a + val b) = 0 := by rw [h]; rfl
        obtain ⟨q, n, hq, _⟩ := rb.ex
        have := hq.pos
        rw [hx] at h1
        grind
      refine ⟨(signed (neg a) m, f), Ev.succ ?_, ⟨fun h => absurd h hxne, fun _ => ⟨m, by rw [hx]; exact rb, by rw [hsg hxne]⟩⟩⟩
      simp only [bi.j4]
      refine Ev.neg (by decide) (Ev.call (wu ha) ?_)
      rw [w64 (x := E - 64) (by omega) (by omega)]
      exact Ev.bind er (Ev.now _)
    -- the lesser one isn't greater
    have hQM : (if R = 0 then Q else Q + 1) ≤ M * 18446744073709551616 := by
      by_cases c : R = 0
      · rw [if_pos c]
        have : (Q : Rat) * pw (E - 64) ≤ (M * 18446744073709551616 : Int) * pw (E - 64) := by rw [← hlow0 c, ← aM, ← va, ← vb]; exact hvle
        exact si.mp this
      · rw [if_neg c]
        have := hbig c
        omega
    have j3 : ∀ (qh' ql' : Int), U qh' → U ql' → wv qh' ql' = (if R = 0 then Q else Q + 1) →
        ∃ rf : Int × Int, Ev (fun k => bi.j3 k a E (decide (R ≠ 0)) M 0 qh' ql') rf ∧ Rd (val a + val b) (neg a && neg b) rf.1 rf.2 := by
      intro qh' ql' u1 u2 e
      obtain ⟨sh, sl, es, us1, us2, evs⟩ := wide_Sub_eq UM U_0 u1 u2 (by rw [wM, e]; exact hQM)
      rw [wM, e] at evs
      by_cases hz0 : wv sh sl = 0
      · by_cases c : R = 0
        · -- nothing is left
          refine ⟨(0, 0), Ev.succ ?_, ⟨fun _ => ⟨by rw [hz]; rfl, rfl⟩, fun h => absurd ?_ h⟩⟩
          · simp only [bi.j3]
            refine Ev.call es (Ev.call (yw us1 us2) ?_)
            rw [decide_eq_true hz0]
            refine Ev.pos rfl (Ev.succ ?_)
            simp only [bi.j4]
            exact Ev.pos (by simp [c]) (Ev.now _)
          · have h1 : jh (val a + val b) = 0 := by
              rw [hx, va, vb, hlow0 c, aM]
              rw [if_pos c, hz0] at evs
              have : M * 18446744073709551616 = Q := by omega
              rw [this]; grind
            unfold jh at h1; grind
        · obtain ⟨rf, ev, rd⟩ := tail sh sl us1 us2 _ rfl evs (by simp [c])
          refine ⟨rf, Ev.succ ?_, rd⟩
          simp only [bi.j3]
          refine Ev.call es (Ev.call (yw us1 us2) ?_)
          rw [decide_eq_true hz0]
          refine Ev.pos rfl ?_
          rw [show (!decide (R ≠ 0)) = false from by simp [c]]
          exact ev
      · obtain ⟨rf, ev, rd⟩ := tail sh sl us1 us2 _ rfl evs (fun h => hz0 h.1)
        refine ⟨rf, Ev.succ ?_, rd⟩
        simp only [bi.j3]
        refine Ev.call es (Ev.call (yw us1 us2) ?_)
        rw [decide_eq_false hz0]
        exact Ev.neg (by decide) ev
    by_cases c : R = 0
    · obtain ⟨rf, ev, rd⟩ := j3 qh ql uq1 uq2 (by rw [if_pos c]; exact eq)
      refine ⟨rf, start _ (Ev.neg (by simp [hs]) (Ev.neg (by simp [c]) ev)), rd⟩
    · obtain ⟨ah, al, ea, ua1, ua2, eva⟩ := C9 uq1 uq2 U_0 U_1
      have e1 : wv 0 1 = 1 := by unfold wv; omega
      rw [eq, e1, Int.emod_eq_of_lt (by omega) (by omega)] at eva
      obtain ⟨rf, ev, rd⟩ := j3 ah al ua1 ua2 (by rw [if_neg c]; exact eva)
      refine ⟨rf, start _ (Ev.neg (by simp [hs]) (Ev.pos (by simp [c]) (Ev.call ea ?_))), rd⟩
      exact ev

theorem zero_two {a : Int} (ha : U a) (h : mag a = 0) : a = if neg a then 9223372036854775808 else 0 := by
  obtain ⟨h0, h1⟩ := ha
  unfold mag at h
  unfold neg
  by_cases c : 9223372036854775808 ≤ a
  · rw [decide_eq_true c]; simp; omega
  · rw [decide_eq_false c]; simp; omega
theorem add_fin {a b : Int} (ha : U a) (hb : U b) (fa : fin a) (fb : fin b) : ∃ r f, Ev (fun k => bi.f k a b) (r, f) ∧ Rd (val a + val b) (neg a && neg b) r f := by
  have ka : kindOf (mag a) ≠ 4 := fun h => by have := om.mp h; unfold fin at fa; omega
  have kb : kindOf (mag b) ≠ 4 := fun h => by have := om.mp h; unfold fin at fb; omega
  have step : ∀ rf : Int × Int, Ev (fun k => bi.j1 k a b (kindOf (mag a)) (kindOf (mag b)) (if kindOf (mag a) = 1 then (kindOf (mag b) == 1) else false)) rf → Ev (fun k => bi.f k a b) rf := by
    intro rf h
    refine Du ha hb (by rw [wo fa, wo fb]; rfl) ?_
    rw [if_neg ka]
    refine Ev.succ ?_
    simp only [bi.j0]
    refine Ev.neg (by decide) (Ev.neg ka (Ev.neg kb ?_))
    by_cases c : kindOf (mag a) = 1
    · rw [if_pos c] at h; exact Ev.pos c h
    · rw [if_neg c] at h; exact Ev.neg c h
  by_cases za : mag a = 0
  · have k1 := ry.mpr za
    by_cases zb : mag b = 0
    · have k2 := ry.mpr zb
      refine ⟨bits .and .u64 a b, 0, step _ (Ev.succ ?_), ?_⟩
      · simp only [bi.j1]
        exact Ev.pos (by rw [if_pos k1, k2]; rfl) (Ev.now _)
      · have h0 : val a + val b = 0 := by rw [qg.mpr za, qg.mpr zb]; grind
        refine ⟨fun _ => ⟨?_, rfl⟩, fun h => absurd h0 h⟩
        have e1 := zero_two ha za
        have e2 := zero_two hb zb
        rw [e1, e2]
        cases neg a <;> cases neg b <;> decide
    · have k2 : ¬ kindOf (mag b) = 1 := fun h => zb (ry.mp h)
      refine ⟨b, 0, step _ (Ev.succ ?_), ?_⟩
      · simp only [bi.j1]
        exact Ev.neg (by rw [if_pos k1]; simpa using k2) (Ev.pos k1 (Ev.now _))
      · rw [qg.mpr za, show (0 : Rat) + val b = val b from by grind]
        exact Rd.self hb fb zb _
  · have k1 : ¬ kindOf (mag a) = 1 := fun h => za (ry.mp h)
    by_cases zb : mag b = 0
    · have k2 := ry.mpr zb
      refine ⟨a, 0, step _ (Ev.succ ?_), ?_⟩
      · simp only [bi.j1]
        exact Ev.neg (by rw [if_neg k1]; decide) (Ev.neg k1 (Ev.pos k2 (Ev.now _)))
      · rw [qg.mpr zb, show val a + (0 : Rat) = val a from by grind]
        exact Rd.self ha fa za _
    · have k2 : ¬ kindOf (mag b) = 1 := fun h => zb (ry.mp h)
      have m0 := (yt (a := a)).1
      have m1 := (yt (a := b)).1
      by_cases hlt : mag a < mag b
      · obtain ⟨r, f, ev, rd⟩ := add_j2 hb ha fb fa (by omega) (by omega) (by omega)
        refine ⟨r, f, step _ (Ev.succ ?_), by rw [show val a + val b = val b + val a from by grind, Bool.and_comm]; exact rd⟩
        simp only [bi.j1]
        exact Ev.neg (by rw [if_neg k1]; decide) (Ev.neg k1 (Ev.neg k2 (Ev.call (Bi ha) (Ev.call (Bi hb) (Ev.pos hlt ev)))))
      · obtain ⟨r, f, ev, rd⟩ := add_j2 ha hb fa fb (by omega) (by omega) (by omega)
        refine ⟨r, f, step _ (Ev.succ ?_), rd⟩
        simp only [bi.j1]
        exact Ev.neg (by rw [if_neg k1]; decide) (Ev.neg k1 (Ev.neg k2 (Ev.call (Bi ha) (Ev.call (Bi hb) (Ev.neg hlt ev)))))

def AddR (a b r f : Int) : Prop :=
  if (ll a || ll b) = true then r = Ci ∧ f = nanF a b
  else if mag a = INF then (if mag b = INF ∧ a ≠ b then r = Ci ∧ f = 16 else r = a ∧ f = 0)
  else if mag b = INF then r = b ∧ f = 0
  else Rd (val a + val b) (neg a && neg b) r f
theorem add_ev {a b : Int} (ha : U a) (hb : U b) : ∃ r f, Ev (fun k => bi.f k a b) (r, f) ∧ AddR a b r f := by
  unfold AddR
  by_cases h : (ll a || ll b) = true
  · exact ⟨_, _, add_nan ha hb h, by rw [if_pos h]; exact ⟨rfl, rfl⟩⟩
  · obtain ⟨h0, na, nb⟩ := nan_or h
    by_cases ia : mag a = INF
    · by_cases ib : mag b = INF ∧ a ≠ b
      · exact ⟨_, _, add_inf2 ha hb ia ib.1 ib.2, by rw [if_neg h, if_pos ia, if_pos ib]; exact ⟨rfl, rfl⟩⟩
      · refine ⟨_, _, add_infa ha hb ia nb ?_, by rw [if_neg h, if_pos ia, if_neg ib]; exact ⟨rfl, rfl⟩⟩
        by_cases c : a = b
        · exact .inl c
        · exact .inr (fun hh => ib ⟨hh, c⟩)
    · by_cases ib : mag b = INF
      · exact ⟨_, _, add_infb ha hb (Bz na ia) ib, by rw [if_neg h, if_neg ia, if_pos ib]; exact ⟨rfl, rfl⟩⟩
      · obtain ⟨r, f, ev, rd⟩ := add_fin ha hb (Bz na ia) (Bz nb ib)
        exact ⟨r, f, ev, by rw [if_neg h, if_neg ia, if_neg ib]; exact rd⟩
theorem AddR.unique {a b r f r' f' : Int} (h : AddR a b r f) (h' : AddR a b r' f') : r = r' ∧ f = f' := by
  unfold AddR at h h'
  by_cases c1 : (ll a || ll b) = true
  · rw [if_pos c1] at h h'; omega
  · rw [if_neg c1] at h h'
    by_cases c2 : mag a = INF
    · rw [if_pos c2] at h h'
      by_cases c3 : mag b = INF ∧ a ≠ b
      · rw [if_pos c3] at h h'; omega
      · rw [if_neg c3] at h h'; omega
    · rw [if_neg c2] at h h'
      by_cases c3 : mag b = INF
      · rw [if_pos c3] at h h'; omega
      · rw [if_neg c3] at h h'; exact h.unique h'
theorem AddR.fin {a b r f : Int} (fa : fin a) (fb : fin b) : AddR a b r f ↔ Rd (val a + val b) (neg a && neg b) r f := by
  unfold AddR; rw [wo fa, wo fb, if_neg (by decide), if_neg (Ak fa), if_neg (Ak fb)]
theorem AddR.flags {a b r f : Int} (h : AddR a b r f) : 0 ≤ f ∧ f ≤ 16 := by
  have := nanF_le a b
  unfold AddR at h
  split at h
  · omega
  · split at h
    · split at h <;> omega
    · split at h
      · omega
      · exact h.flags
theorem AddR.range {a b r f : Int} (ha : U a) (hb : U b) (h : AddR a b r f) : U r := by
  unfold AddR at h
  have q : U Ci := by unfold Ci U; decide
  split at h
  · rw [h.1]; exact q
  · split at h
    · split at h
      · rw [h.1]; exact q
      · rw [h.1]; exact ha
    · split at h
      · rw [h.1]; exact hb
      · exact h.range.1
end Gim

end

section
namespace Gim
open Go Go.RowKit Go.Proofs.YtnjobojkoaknpaaDoorW.PrintWords Go.Proofs.YtnjobojkoaknpaaDoorW.PrintLast Go.Proofs.YtnjobojkoaknpaaDoorW.PrintMore Go.Proofs.YtnjobojkoaknpaaDoor.F
set_option linter.unusedVariables false


theorem Ho {a b : Int} (ha : U a) (hb : U b) : bits_Mul64.f a b = some (a * b / 18446744073709551616, a * b % 18446744073709551616) := by
  have ha' := ha
  have hb' := hb
  obtain ⟨a0, a1⟩ := ha
  obtain ⟨b0, b1⟩ := hb
  unfold bits_Mul64.f
  rw [Dw a0 a1, Dw b0 b1]
  have hA : 0 ≤ a / 4294967296 ∧ a / 4294967296 ≤ 4294967295 := by omega
  have hB : 0 ≤ b / 4294967296 ∧ b / 4294967296 ≤ 4294967295 := by omega
  have hC : 0 ≤ a % 4294967296 ∧ a % 4294967296 ≤ 4294967295 := by omega
  have hD : 0 ≤ b % 4294967296 ∧ b % 4294967296 ≤ 4294967295 := by omega
  have e : a * b = (a / 4294967296 * (b / 4294967296)) * 18446744073709551616 + (a / 4294967296 * (b % 4294967296) + a % 4294967296 * (b / 4294967296)) * 4294967296 + a % 4294967296 * (b % 4294967296) := by
    have e1 : a = a / 4294967296 * 4294967296 + a % 4294967296 := by omega
    have e2 : b = b / 4294967296 * 4294967296 + b % 4294967296 := by omega
    generalize a / 4294967296 = x at *
    generalize a % 4294967296 = y at *
    generalize b / 4294967296 = z at *
    generalize b % 4294967296 = w at *
    subst e1 e2
    grind
  obtain ⟨p0, p1⟩ := xg hA.1 hB.1 hA.2 hB.2
  obtain ⟨q0, q1⟩ := xg hA.1 hD.1 hA.2 hD.2
  obtain ⟨r0, r1⟩ := xg hC.1 hB.1 hC.2 hB.2
  obtain ⟨s0, s1⟩ := xg hC.1 hD.1 hC.2 hD.2
  have hm : a * b < 340282366920938463463374607431768211456 := by
    have := (xg a0 b0 (show a ≤ 18446744073709551615 by omega) (show b ≤ 18446744073709551615 by omega)).2
    omega
  have hm0 : 0 ≤ a * b := Int.mul_nonneg a0 b0
  rw [yc (a * b)]
  generalize a * b = X at *
  generalize a / 4294967296 * (b / 4294967296) = P at *
  generalize a / 4294967296 * (b % 4294967296) = Q at *
  generalize a % 4294967296 * (b / 4294967296) = R at *
  generalize a % 4294967296 * (b % 4294967296) = S at *
  rw [wu64 (x := S) (by omega) (by omega), wu64 (x := Q) (by omega) (by omega), wu64 (x := Q + S / 4294967296) (by omega) (by omega), Dw (by omega) (by omega),
    wu64 (x := R) (by omega) (by omega), wu64 (x := P) (by omega) (by omega), wu64 (x := P + (Q + S / 4294967296) / 4294967296) (by omega) (by omega),
    wu64 (x := (Q + S / 4294967296) % 4294967296 + R) (by omega) (by omega), wu64 (by omega) (by omega)]
  congr 2
  omega
theorem wide_Mul_eq {a b : Int} (ha : U a) (hb : U b) : ∃ h l, Az.f a b = some (h, l) ∧ U h ∧ U l ∧ wv h l = a * b := by
  unfold Az.f
  rw [Ho ha hb]
  obtain ⟨a0, a1⟩ := ha
  obtain ⟨b0, b1⟩ := hb
  have hm : a * b < 340282366920938463463374607431768211456 := by
    have := (xg a0 b0 (show a ≤ 18446744073709551615 by omega) (show b ≤ 18446744073709551615 by omega)).2
    omega
  have hm0 : 0 ≤ a * b := Int.mul_nonneg a0 b0
  simp only [Option.bind_some]
  generalize a * b = X at *
  exact ⟨_, _, rfl, ⟨by omega, by omega⟩, ⟨by omega, by omega⟩, by unfold wv; omega⟩

end Gim

end

section
namespace Gim
open Go Go.RowKit Go.Proofs.YtnjobojkoaknpaaDoorW.PrintWords Go.Proofs.YtnjobojkoaknpaaDoorW.PrintLast Go.Proofs.YtnjobojkoaknpaaDoorW.PrintMore Go.Proofs.YtnjobojkoaknpaaDoor.F
set_option linter.unusedVariables false
theorem mul_nan {a b : Int} (ha : U a) (hb : U b) (h : (ll a || ll b) = true) : Ev (fun k => il.f k a b) (Ci, nanF a b) := by
  unfold il.f
  refine Ev.bind (Ay ha hb) ?_
  exact Ev.pos h (Ev.now _)
def su (a b : Int) : Bool := (decide (mag a = INF) && decide (mag b = 0)) || (decide (mag a = 0) && decide (mag b = INF))
theorem Fg {a b : Int} (ha : U a) (hb : U b) (h : (ll a || ll b) = false) {r : Int × Int}
    (hk : Ev (fun k => il.j0 k a b (neg a != neg b) (kindOf (mag a)) (kindOf (mag b)) (su a b)) r) : Ev (fun k => il.f k a b) r := by
  unfold il.f
  refine Ev.bind (Ay ha hb) (Ev.neg (by simp only [h]; decide) (Ev.call (wu ha) (Ev.call (wu hb) (Ev.bind (qi ha) (Ev.bind (qi hb) ?_)))))
  rw [Bd, Bd, Gi, Gi]
  have kz : ∀ c : Int, (kindOf (mag c) == 4) = decide (mag c = INF) := fun c => by
    rw [Bool.eq_iff_iff]; simp only [beq_iff_eq, decide_eq_true_eq]; exact om
  have I0 : (INF : Int) ≠ 0 := by decide
  rw [kz]
  by_cases c1 : kindOf (mag a) = 4
  · have m1 := om.mp c1
    have n1 : ¬ kindOf (mag a) = 1 := by rw [c1]; decide
    by_cases c2 : kindOf (mag b) = 1
    · have m2 := ry.mp c2
      have e : su a b = true := by unfold su; rw [m1, m2]; decide
      rw [e] at hk
      exact Ev.pos c1 (Ev.pos c2 hk)
    · have m2 : mag b ≠ 0 := fun h => c2 (ry.mpr h)
      have e : su a b = false := by unfold su; rw [m1]; simp [m2, I0]
      rw [e] at hk
      exact Ev.pos c1 (Ev.neg c2 (Ev.neg n1 hk))
  · have m1 : mag a ≠ INF := fun h => c1 (om.mpr h)
    by_cases c2 : kindOf (mag a) = 1
    · have m2 := ry.mp c2
      have e : su a b = decide (mag b = INF) := by unfold su; rw [m2]; simp [Ne.symm I0]
      rw [e] at hk
      exact Ev.neg c1 (Ev.pos c2 hk)
    · have m2 : mag a ≠ 0 := fun h => c2 (ry.mpr h)
      have e : su a b = false := by unfold su; simp [m1, m2]
      rw [e] at hk
      exact Ev.neg c1 (Ev.neg c2 hk)
theorem mul_infzero {a b : Int} (ha : U a) (hb : U b) (h : su a b = true) : Ev (fun k => il.f k a b) (Ci, 16) := by
  refine Fg ha hb ?_ ?_
  · unfold su at h
    have h0 : ll a = false ∧ ll b = false := by
      unfold ll INF at *
      simp at h ⊢
      omega
    rw [h0.1, h0.2]; rfl
  · refine Ev.succ ?_
    simp only [il.j0]
    exact Ev.pos h (Ev.now _)
theorem mul_inf {a b : Int} (ha : U a) (hb : U b) (h0 : (ll a || ll b) = false) (h1 : mag a = INF ∨ mag b = INF) (h2 : su a b = false) : Ev (fun k => il.f k a b) (signed (neg a != neg b) INF, 0) := by
  refine Fg ha hb h0 (Ev.succ ?_)
  simp only [il.j0]
  refine Ev.neg (by rw [h2]; decide) ?_
  by_cases c : kindOf (mag a) = 4
  · exact Ev.pos c (Ev.call (Ey _) (Ev.now _))
  · refine Ev.neg c (Ev.pos (om.mpr (by rcases h1 with h | h; exact absurd (om.mpr h) c; exact h)) (Ev.call (Ey _) (Ev.now _)))
theorem mul_fin {a b : Int} (ha : U a) (hb : U b) (fa : fin a) (fb : fin b) : ∃ r f, Ev (fun k => il.f k a b) (r, f) ∧ Rd (val a * val b) (neg a != neg b) r f := by
  have ka : kindOf (mag a) ≠ 4 := fun h => by have := om.mp h; unfold fin at fa; omega
  have kb : kindOf (mag b) ≠ 4 := fun h => by have := om.mp h; unfold fin at fb; omega
  have iz : su a b = false := by
    have h1 : mag a ≠ INF := fun h => ka (om.mpr h)
    have h2 : mag b ≠ INF := fun h => kb (om.mpr h)
    unfold su; simp [h1, h2]
  obtain ⟨M, E, pa, m0, m1, e0, e1, va, za⟩ := Parts_fin ha fa
  obtain ⟨N, G, pb, n0, n1, g0, g1, vb, zb⟩ := Parts_fin hb fb
  obtain ⟨h, l, ew, u1, u2, ev⟩ := wide_Mul_eq (a := M) (b := N) ⟨m0, by omega⟩ ⟨n0, by omega⟩
  have hx : jh (val a * val b) = ((M * N : Int) : Rat) * pw (E + G) := by
    have e : jh (val a * val b) = vm (mag a) * vm (mag b) := by
      have p1 := Cc (yt (a := a)).1
      have p2 := Cc (yt (a := b)).1
      have p3 := Rat.mul_nonneg p1 p2
      rw [zw a, zw b]
      unfold jh
      cases neg a <;> cases neg b <;> simp <;> grind
    rw [e, va, vb, uj]; push_cast; grind
  have start : ∀ rf : Int × Int, Ev (fun k => aj.f k (neg a != neg b) h l (E + G) false) rf → Ev (fun k => il.f k a b) rf := by
    intro rf hr
    refine Fg ha hb (by rw [wo fa, wo fb]; rfl) (Ev.succ ?_)
    simp only [il.j0]
    refine Ev.neg (by rw [iz]; decide) (Ev.neg ka (Ev.neg kb (Ev.bind pa (Ev.bind pb (Ev.call ew ?_)))))
    dsimp only
    rw [w64 (x := E + G) (by omega) (by omega)]
    exact Ev.bind hr (Ev.now _)
  by_cases z : M * N = 0
  · rw [z] at ev hx
    have hl := wv_inj u1 u2 U_0 U_0 (by rw [ev]; rfl)
    obtain ⟨rfl, rfl⟩ := hl
    refine ⟨_, _, start _ (Fj _ _), ⟨fun _ => ⟨rfl, rfl⟩, fun hne => absurd ?_ hne⟩⟩
    have : jh (val a * val b) = 0 := by rw [hx]; grind
    unfold jh at this; grind
  · have hpos : 0 < M * N := by have := Int.mul_nonneg m0 n0; omega
    obtain ⟨m, f, er, rb⟩ := Aa (neg a != neg b) u1 u2 (E := E + G) (by omega) (by omega) false (x := jh (val a * val b)) (by rw [ev]; exact hpos)
      (fun _ => by rw [ev]; exact hx) (fun h => by cases h)
    have hne : val a * val b ≠ 0 := by
      intro h0
      have h1 : jh (val a * val b) = 0 := by rw [h0]; rfl
      rw [hx] at h1
      have : (0 : Int) * pw (E + G) < ((M * N : Int) : Rat) * pw (E + G) := qb.mpr hpos
      rw [h1] at this
      grind
    refine ⟨_, _, start _ er, ⟨fun h0 => absurd h0 hne, fun _ => ⟨m, rb, ?_⟩⟩⟩
    congr 1
    have p1 : 0 < vm (mag a) := by
      have : mag a ≠ 0 := fun hz => by rw [za.mpr hz] at hpos; omega
      exact yh (by have := (yt (a := a)).1; omega)
    have p2 : 0 < vm (mag b) := by
      have : mag b ≠ 0 := fun hz => by rw [zb.mpr hz] at hpos; omega
      exact yh (by have := (yt (a := b)).1; omega)
    have p3 := Rat.mul_pos p1 p2
    rw [zw a, zw b]
    cases neg a <;> cases neg b <;> simp <;> grind
def MulR (a b r f : Int) : Prop :=
  if (ll a || ll b) = true then r = Ci ∧ f = nanF a b
  else if su a b = true then r = Ci ∧ f = 16
  else if mag a = INF ∨ mag b = INF then r = signed (neg a != neg b) INF ∧ f = 0
  else Rd (val a * val b) (neg a != neg b) r f
theorem mul_ev {a b : Int} (ha : U a) (hb : U b) : ∃ r f, Ev (fun k => il.f k a b) (r, f) ∧ MulR a b r f := by
  unfold MulR
  by_cases h : (ll a || ll b) = true
  · exact ⟨_, _, mul_nan ha hb h, by rw [if_pos h]; exact ⟨rfl, rfl⟩⟩
  · obtain ⟨h0, na, nb⟩ := nan_or h
    by_cases iz : su a b = true
    · exact ⟨_, _, mul_infzero ha hb iz, by rw [if_neg h, if_pos iz]; exact ⟨rfl, rfl⟩⟩
    · by_cases i : mag a = INF ∨ mag b = INF
      · exact ⟨_, _, mul_inf ha hb h0 i (by simpa using iz), by rw [if_neg h, if_neg iz, if_pos i]; exact ⟨rfl, rfl⟩⟩
      · obtain ⟨r, f, ev, rd⟩ := mul_fin ha hb (Bz na (fun h => i (.inl h))) (Bz nb (fun h => i (.inr h)))
        exact ⟨r, f, ev, by rw [if_neg h, if_neg iz, if_neg i]; exact rd⟩
theorem MulR.unique {a b r f r' f' : Int} (h : MulR a b r f) (h' : MulR a b r' f') : r = r' ∧ f = f' := by
  unfold MulR at h h'
  by_cases c1 : (ll a || ll b) = true
  · rw [if_pos c1] at h h'; omega
  · rw [if_neg c1] at h h'
    by_cases c2 : su a b = true
    · rw [if_pos c2] at h h'; omega
    · rw [if_neg c2] at h h'
      by_cases c3 : mag a = INF ∨ mag b = INF
      · rw [if_pos c3] at h h'; omega
      · rw [if_neg c3] at h h'; exact h.unique h'
theorem MulR.fin {a b r f : Int} (fa : fin a) (fb : fin b) : MulR a b r f ↔ Rd (val a * val b) (neg a != neg b) r f := by
  have : su a b = false := by unfold su; simp [Ak fa, Ak fb]
  unfold MulR; rw [wo fa, wo fb, this, if_neg (by decide), if_neg (by decide), if_neg (by rintro (h | h); exact Ak fa h; exact Ak fb h)]
theorem MulR.flags {a b r f : Int} (h : MulR a b r f) : 0 ≤ f ∧ f ≤ 16 := by
  have := nanF_le a b
  unfold MulR at h
  split at h
  · omega
  · split at h
    · omega
    · split at h
      · omega
      · exact h.flags
theorem MulR.range {a b r f : Int} (h : MulR a b r f) : U r := by
  unfold MulR at h
  have q : U Ci := by unfold Ci U; decide
  split at h
  · rw [h.1]; exact q
  · split at h
    · rw [h.1]; exact q
    · split at h
      · rw [h.1]; exact Ch Fe.1 Fe.2
      · exact h.range.1
end Gim

end

section
namespace Gim
open Go Go.RowKit Go.Proofs.YtnjobojkoaknpaaDoorW.PrintWords Go.Proofs.YtnjobojkoaknpaaDoorW.PrintLast Go.Proofs.YtnjobojkoaknpaaDoorW.PrintMore Go.Proofs.YtnjobojkoaknpaaDoor.F
set_option linter.unusedVariables false

theorem Ac {a : Int} (h : U a) : pq.f a = some (decide (fin a)) := by
  unfold pq.f
  rw [Db h]
  simp only [Option.bind_some]
  congr 1
  apply decide_eq_decide.mpr
  obtain ⟨h0, h1⟩ := h
  unfold fin mag INF
  constructor <;> intro h <;> omega
theorem U_of_wf {a : Int} (h : (Lit.int .u64 a).wf = true) : U a := by
  simp [Lit.wf, IntKind.min, IntKind.max, IntKind.signed, IntKind.bits] at h
  unfold U; omega
end Gim

end

section
namespace Gim
open Go Go.RowKit Go.Proofs.YtnjobojkoaknpaaDoorW.PrintWords Go.Proofs.YtnjobojkoaknpaaDoorW.PrintLast Go.Proofs.YtnjobojkoaknpaaDoorW.PrintMore
set_option linter.unusedVariables false

noncomputable def resOf {α : Type} [Inhabited α] (g : Nat → Option α) : α := open Classical in if h : ∃ r, Ev g r then Classical.choose h else default
theorem Ev.resE {α : Type} [Inhabited α] {g : Nat → Option α} {r : α} (h : Ev g r) : Ev g (resOf g) := by
  unfold resOf
  rw [dif_pos ⟨r, h⟩]
  exact Classical.choose_spec (p := fun r => Ev g r) ⟨r, h⟩
end Gim

end

section
namespace Gim
open Go Go.RowKit Go.Proofs.YtnjobojkoaknpaaDoorW.PrintWords Go.Proofs.YtnjobojkoaknpaaDoorW.PrintLast Go.Proofs.YtnjobojkoaknpaaDoorW.PrintMore Go.Proofs.YtnjobojkoaknpaaDoor.F
set_option linter.unusedVariables false

def B8 (f : Int) : BitVec 8 := BitVec.ofInt 8 f
theorem or8_eq (x y : Int) : Go.bits .or .u8 x y = ((B8 x ||| B8 y).toNat : Int) := by
  have e : Go.bits .or .u8 x y = IntKind.u8.wrap ((BitVec.ofInt 8 x ||| BitVec.ofInt 8 y).toNat : Int) := rfl
  rw [e]
  unfold B8
  generalize (BitVec.ofInt 8 x ||| BitVec.ofInt 8 y) = v
  have := v.isLt
  simp [IntKind.wrap, IntKind.bits, IntKind.signed]
  omega
theorem B8_or (x y : Int) : B8 (Go.bits .or .u8 x y) = B8 x ||| B8 y := by
  rw [or8_eq]
  show BitVec.ofInt 8 ((B8 x ||| B8 y).toNat : Int) = _
  rw [BitVec.ofInt_natCast, BitVec.ofNat_toNat, BitVec.setWidth_eq]
noncomputable def aP (a b : Int) : Int × Int := resOf (fun k => bi.f k a b)
noncomputable def mP (a b : Int) : Int × Int := resOf (fun k => il.f k a b)
noncomputable def av (a b : Int) : Int := (aP a b).1
noncomputable def mv (a b : Int) : Int := (mP a b).1
theorem aP_ev {a b : Int} (ha : U a) (hb : U b) : Ev (fun k => bi.f k a b) (aP a b) := by
  obtain ⟨r, f, ev, R⟩ := add_ev ha hb
  exact Ev.resE ev
theorem aP_R {a b : Int} (ha : U a) (hb : U b) : AddR a b (aP a b).1 (aP a b).2 := by
  obtain ⟨r, f, ev, R⟩ := add_ev ha hb
  rw [Ev.det (aP_ev ha hb) ev]
  exact R
theorem mP_ev {a b : Int} (ha : U a) (hb : U b) : Ev (fun k => il.f k a b) (mP a b) := by
  obtain ⟨r, f, ev, R⟩ := mul_ev ha hb
  exact Ev.resE ev
theorem mP_R {a b : Int} (ha : U a) (hb : U b) : MulR a b (mP a b).1 (mP a b).2 := by
  obtain ⟨r, f, ev, R⟩ := mul_ev ha hb
  rw [Ev.det (mP_ev ha hb) ev]
  exact R
theorem av_U {a b : Int} (ha : U a) (hb : U b) : U (av a b) := (aP_R ha hb).range ha hb
theorem mv_U {a b : Int} (ha : U a) (hb : U b) : U (mv a b) := (mP_R ha hb).range
theorem rd_U {l : List Int} (h : ∀ x ∈ l, U x) (i : Nat) : U (rd l (i : Int)) := by
  unfold rd
  rw [Int.toNat_natCast, List.getD_eq_getElem?_getD]
  by_cases c : i < l.length
  · rw [List.getElem?_eq_getElem c]; exact h _ (List.getElem_mem c)
  · rw [List.getElem?_eq_none (by omega)]; exact ⟨by decide, by decide⟩
end Gim

end

section
namespace Gim
open Go Go.RowKit Go.Proofs.YtnjobojkoaknpaaDoorW.PrintWords Go.Proofs.YtnjobojkoaknpaaDoorW.PrintLast Go.Proofs.YtnjobojkoaknpaaDoorW.PrintMore Go.Proofs.YtnjobojkoaknpaaDoor.F
set_option linter.unusedVariables false


structure Norm (y y1 y0 : Int) : Prop where
  eq : y = y1 * 4294967296 + y0
  l1 : 2147483648 ≤ y1
  h1 : y1 < 4294967296
  l0 : 0 ≤ y0
  h0 : y0 < 4294967296

structure Guess (y y1 y0 u d q rh : Int) : Prop where
  u0 : 0 ≤ u
  u1 : u < y
  d0 : 0 ≤ d
  d1 : d < 4294967296
  rh0 : 0 ≤ rh
  rhe : rh = u - q * y1
  q0 : (u * 4294967296 + d) / y ≤ q
  q1 : q ≤ 4294967297

theorem quo_lt {y u d : Int} (hy : 0 < y) (u0 : 0 ≤ u) (u1 : u < y) (d0 : 0 ≤ d) (d1 : d < 4294967296) : 0 ≤ (u * 4294967296 + d) / y ∧ (u * 4294967296 + d) / y < 4294967296 := by
  refine ⟨Int.ediv_nonneg (by omega) (by omega), Int.ediv_lt_of_lt_mul hy (by omega)⟩
theorem F5 {y y1 y0 u d : Int} (n : Norm y y1 y0) (u0 : 0 ≤ u) (u1 : u < y) (d0 : 0 ≤ d) (d1 : d < 4294967296) : Guess y y1 y0 u d (u / y1) (u - u / y1 * y1) := by
  obtain ⟨e, l1, h1, l0, h0⟩ := n
  have hy1 : 0 < y1 := by omega
  have hy : 0 < y := by omega
  have m := Int.mul_ediv_add_emod u y1
  have r0 := Int.emod_nonneg u (Int.ne_of_gt hy1)
  have c : u / y1 * y1 = y1 * (u / y1) := Int.mul_comm _ _
  refine ⟨u0, u1, d0, d1, by omega, rfl, ?_, ?_⟩
  · -- (u 2^32 + d)/y ≤ (u 2^32 + d)/(y1 2^32) = u/y1
    have h2 : 0 < y1 * 4294967296 := by omega
    have h3 : (u * 4294967296 + d) / (y1 * 4294967296) = u / y1 := by
      rw [Int.mul_comm y1, ← Int.ediv_ediv_of_nonneg (by decide)]
      congr 1
      omega
    rw [← h3]
    have m2 := Int.mul_ediv_add_emod (u * 4294967296 + d) y
    have r2 := Int.emod_nonneg (u * 4294967296 + d) (Int.ne_of_gt hy)
    apply Int.le_ediv_of_mul_le h2
    have q0 := (quo_lt hy u0 u1 d0 d1).1
    have : (u * 4294967296 + d) / y * (y1 * 4294967296) ≤ (u * 4294967296 + d) / y * y := Int.mul_le_mul_of_nonneg_left (by omega) q0
    have c2 : (u * 4294967296 + d) / y * y = y * ((u * 4294967296 + d) / y) := Int.mul_comm _ _
    omega
  · have : u / y1 < 4294967298 := by apply Int.ediv_lt_of_lt_mul hy1; omega
    omega
theorem prod32 {q y0 : Int} (q0 : 0 ≤ q) (q1 : q ≤ 4294967297) (l0 : 0 ≤ y0) (h0 : y0 < 4294967296) : 0 ≤ q * y0 ∧ q * y0 ≤ 18446744073709551615 := by
  have := xg q0 l0 q1 (show y0 ≤ 4294967295 by omega)
  omega
theorem Cx {y y1 y0 u d q rh : Int} (n : Norm y y1 y0) (g : Guess y y1 y0 u d q rh) (hr : rh < 4294967296) :
    (q ≥ 4294967296 ∨ q * y0 > 4294967296 * rh + d) ↔ (u * 4294967296 + d) / y < q := by
  obtain ⟨e, l1, h1, l0, h0⟩ := n
  have hy : 0 < y := by omega
  obtain ⟨q2, q3⟩ := quo_lt hy g.u0 g.u1 g.d0 g.d1
  have hq := g.q0
  have e1 : q * y = q * y1 * 4294967296 + q * y0 := by rw [e]; grind
  have e2 : q * y1 = u - rh := by have := g.rhe; omega
  have key : q * y0 > 4294967296 * rh + d ↔ (u * 4294967296 + d) / y < q := by
    rw [Int.ediv_lt_iff_lt_mul hy, e1, e2]
    constructor <;> intro h <;> omega
  constructor
  · rintro (h | h)
    · omega
    · exact key.mp h
  · intro h
    exact .inr (key.mpr h)
theorem Hd {y y1 y0 u d q rh : Int} (n : Norm y y1 y0) (g : Guess y y1 y0 u d q rh) (h : (u * 4294967296 + d) / y < q) : Guess y y1 y0 u d (q - 1) (rh + y1) := by
  have := n.l1
  have e : (q - 1) * y1 = q * y1 - y1 := by grind
  exact ⟨g.u0, g.u1, g.d0, g.d1, by have := g.rh0; omega, by have := g.rhe; omega, by omega, by have := g.q1; omega⟩
theorem He {y y1 y0 u d q rh : Int} (n : Norm y y1 y0) (g : Guess y y1 y0 u d q rh) (hr : 4294967296 ≤ rh) (hq : q ≤ 4294967296) : q = (u * 4294967296 + d) / y := by
  obtain ⟨e, l1, h1, l0, h0⟩ := n
  have hy : 0 < y := by omega
  obtain ⟨q2, q3⟩ := quo_lt hy g.u0 g.u1 g.d0 g.d1
  have hq0 := g.q0
  have e1 : q * y = q * y1 * 4294967296 + q * y0 := by rw [e]; grind
  have e2 : q * y1 = u - rh := by have := g.rhe; omega
  have p := xg (show 0 ≤ q by omega) l0 hq (show y0 ≤ 4294967295 by omega)
  have : q ≤ (u * 4294967296 + d) / y := by
    apply Int.le_ediv_of_mul_le hy
    rw [e1, e2]
    have := g.d0
    omega
  omega

theorem low_digit {y y1 y0 x9 x10 un0 q1 : Int} (n : Norm y y1 y0) {u d : Int} (hd0 : 0 ≤ un0) (hd1 : un0 < 4294967296) (hq0 : 0 ≤ q1) (hq1 : q1 < 4294967296) (u0 : 0 ≤ u) (u1 : u < y) (hy : y < 18446744073709551616) (k : Nat) :
    ∀ q rh, Guess y y1 y0 u un0 q rh → rh < 4294967296 → (q - (u * 4294967296 + un0) / y).toNat ≤ k →
      Ev (fun f => bz.l1 f y 0 y1 y0 un0 q1 rh u q) (q1 * 4294967296 + (u * 4294967296 + un0) / y, (u * 4294967296 + un0) % y) := by
  have hy0 : 0 < y := by have := n.eq; have := n.l1; have := n.l0; omega
  obtain ⟨t0, t1⟩ := quo_lt hy0 u0 u1 hd0 hd1
  have md := Int.mul_ediv_add_emod (u * 4294967296 + un0) y
  have r0 := Int.emod_nonneg (u * 4294967296 + un0) (Int.ne_of_gt hy0)
  have r1 := Int.emod_lt_of_pos (u * 4294967296 + un0) hy0
  -- the end
  have fin : ∀ q : Int, q = (u * 4294967296 + un0) / y → IntKind.u64.wrap (q1 * 4294967296 + q) = q1 * 4294967296 + (u * 4294967296 + un0) / y ∧
      shr .u64 (IntKind.u64.wrap (IntKind.u64.wrap (IntKind.u64.wrap (u * 4294967296) + un0) - IntKind.u64.wrap (q * y))) 0 = (u * 4294967296 + un0) % y := by
    intro q hq
    refine ⟨by rw [hq]; exact wu64 (by omega) (by omega), ?_⟩
    rw [Dt (by decide) (by decide), p2_0, Int.ediv_one, hq, yc, yc, yc, yc]
    have c : (u * 4294967296 + un0) / y * y = y * ((u * 4294967296 + un0) / y) := Int.mul_comm _ _
    rw [c]
    generalize y * ((u * 4294967296 + un0) / y) = Z at *
    generalize (u * 4294967296 + un0) % y = R at *
    omega
  induction k with
  | zero =>
    intro q rh g hr hk
    have hq : q = (u * 4294967296 + un0) / y := by have := g.q0; omega
    obtain ⟨f1, f2⟩ := fin q hq
    have ht := Cx n g hr
    have hno : ¬ (q ≥ 4294967296 ∨ q * y0 > 4294967296 * rh + un0) := fun h => by have := ht.mp h; omega
    refine Ev.succ ?_
    simp only [bz.l1]
    refine Ev.neg (fun h => hno (.inl h)) (Ev.succ ?_)
    simp only [bz.j4]
    have p := prod32 (show 0 ≤ q by omega) g.q1 n.l0 n.h0
    have := g.rh0
    rw [wu64 (x := q * y0) (by omega) (by omega), wu64 (x := 4294967296 * rh) (by omega) (by omega), wu64 (x := 4294967296 * rh + un0) (by omega) (by omega),
      decide_eq_false (fun h => hno (.inr h))]
    refine Ev.neg (by decide) (Ev.pos (by decide) ?_)
    rw [wu64 (x := q1 * 4294967296) (by omega) (by omega), f1, f2]
    exact Ev.now _
  | succ k ih =>
    intro q rh g hr hk
    by_cases hq : q = (u * 4294967296 + un0) / y
    · exact ih q rh g hr (by omega)
    · have hlt : (u * 4294967296 + un0) / y < q := by have := g.q0; omega
      have ht := (Cx n g hr).mpr hlt
      have g' := Hd n g hlt
      have rh0 := g.rh0
      have l1 := n.l1
      have h1 := n.h1
      have gq1 := g.q1
      -- what the test answers leads on
      have on : Ev (fun f => bz.j4 f y 0 y1 y0 un0 q1 rh u q true) (q1 * 4294967296 + (u * 4294967296 + un0) / y, (u * 4294967296 + un0) % y) := by
        refine Ev.succ ?_
        simp only [bz.j4]
        rw [wu64 (x := rh + y1) (by omega) (by omega), wu64 (x := q - 1) (by omega) (by omega)]
        refine Ev.pos trivial ?_
        by_cases hb : rh + y1 ≥ 4294967296
        · have hq' := He n g' hb (by omega)
          obtain ⟨f1, f2⟩ := fin (q - 1) hq'
          refine Ev.pos hb (Ev.pos (by decide) ?_)
          rw [wu64 (x := q1 * 4294967296) (by omega) (by omega), f1, f2]
          exact Ev.now _
        · exact Ev.neg hb (ih (q - 1) (rh + y1) g' (by omega) (by omega))
      refine Ev.succ ?_
      simp only [bz.l1]
      by_cases hbig : q ≥ 4294967296
      · exact Ev.pos hbig on
      · refine Ev.neg hbig ?_
        have p := prod32 (show 0 ≤ q by omega) g.q1 n.l0 n.h0
        rw [wu64 (x := q * y0) (by omega) (by omega), wu64 (x := 4294967296 * rh) (by omega) (by omega), wu64 (x := 4294967296 * rh + un0) (by omega) (by omega),
          decide_eq_true (by rcases ht with h | h; exact absurd h hbig; exact h)]
        exact on

theorem high_digit {y y1 y0 u un1 un0 : Int} (n : Norm y y1 y0) (hy : y < 18446744073709551616) (u0 : 0 ≤ u) (u1 : u < y) (d0 : 0 ≤ un1) (d1 : un1 < 4294967296) (e0 : 0 ≤ un0) (e1 : un0 < 4294967296) (k : Nat) :
    ∀ q rh, Guess y y1 y0 u un1 q rh → rh < 4294967296 → (q - (u * 4294967296 + un1) / y).toNat ≤ k →
      Ev (fun f => bz.l0 f y 0 y1 y0 u un1 un0 q rh) ((u * 4294967296 + un1) / y * 4294967296 + ((u * 4294967296 + un1) % y * 4294967296 + un0) / y, ((u * 4294967296 + un1) % y * 4294967296 + un0) % y) := by
  have hy0 : 0 < y := by have := n.eq; have := n.l1; have := n.l0; omega
  obtain ⟨t0, t1⟩ := quo_lt hy0 u0 u1 d0 d1
  have md := Int.mul_ediv_add_emod (u * 4294967296 + un1) y
  have r0 := Int.emod_nonneg (u * 4294967296 + un1) (Int.ne_of_gt hy0)
  have r1 := Int.emod_lt_of_pos (u * 4294967296 + un1) hy0
  have l1 := n.l1
  have h1 := n.h1
  have hy1 : 0 < y1 := by omega
  -- on to the second digit
  have fin : ∀ q : Int, q = (u * 4294967296 + un1) / y → Ev (fun f => bz.j2 f y 0 y1 y0 u un1 un0 q) ((u * 4294967296 + un1) / y * 4294967296 + ((u * 4294967296 + un1) % y * 4294967296 + un0) / y, ((u * 4294967296 + un1) % y * 4294967296 + un0) % y) := by
    intro q hq
    have eu : IntKind.u64.wrap (IntKind.u64.wrap (IntKind.u64.wrap (u * 4294967296) + un1) - IntKind.u64.wrap (q * y)) = (u * 4294967296 + un1) % y := by
      rw [hq, yc, yc, yc, yc]
      have c : (u * 4294967296 + un1) / y * y = y * ((u * 4294967296 + un1) / y) := Int.mul_comm _ _
      rw [c]
      generalize y * ((u * 4294967296 + un1) / y) = Z at *
      generalize (u * 4294967296 + un1) % y = R at *
      omega
    refine Ev.succ ?_
    simp only [bz.j2]
    refine Ev.neg (by omega) ?_
    rw [eu, Int.tdiv_eq_ediv_of_nonneg r0]
    have g := F5 (u := (u * 4294967296 + un1) % y) (d := un0) n r0 r1 e0 e1
    have gq := g.q1
    have gr := g.rh0
    have m := Int.mul_ediv_add_emod ((u * 4294967296 + un1) % y) y1
    have s0 := Int.emod_nonneg ((u * 4294967296 + un1) % y) (Int.ne_of_gt hy1)
    have s1 := Int.emod_lt_of_pos ((u * 4294967296 + un1) % y) hy1
    have c : (u * 4294967296 + un1) % y / y1 * y1 = y1 * ((u * 4294967296 + un1) % y / y1) := Int.mul_comm _ _
    have qn : 0 ≤ (u * 4294967296 + un1) % y / y1 := Int.ediv_nonneg r0 (by omega)
    have qy := Int.mul_nonneg qn (show 0 ≤ y1 by omega)
    rw [wu64 (x := (u * 4294967296 + un1) % y / y1) qn (by omega), wu64 (x := (u * 4294967296 + un1) % y / y1 * y1) (by omega) (by omega), wu64 (x := (u * 4294967296 + un1) % y - (u * 4294967296 + un1) % y / y1 * y1) (by omega) (by omega)]
    have := low_digit (x9 := 0) (x10 := 0) (q1 := q) n (d := 0) e0 e1 (by omega) (by omega) r0 r1 hy _ _ _ g (by omega) (Nat.le_refl _)
    rw [hq] at this ⊢
    exact this
  induction k with
  | zero =>
    intro q rh g hr hk
    have hq : q = (u * 4294967296 + un1) / y := by have := g.q0; omega
    have ht := Cx n g hr
    have hno : ¬ (q ≥ 4294967296 ∨ q * y0 > 4294967296 * rh + un1) := fun h => by have := ht.mp h; omega
    refine Ev.succ ?_
    simp only [bz.l0]
    refine Ev.neg (fun h => hno (.inl h)) (Ev.succ ?_)
    simp only [bz.j1]
    have p := prod32 (show 0 ≤ q by omega) g.q1 n.l0 n.h0
    have := g.rh0
    rw [wu64 (x := q * y0) (by omega) (by omega), wu64 (x := 4294967296 * rh) (by omega) (by omega), wu64 (x := 4294967296 * rh + un1) (by omega) (by omega),
      decide_eq_false (fun h => hno (.inr h))]
    exact Ev.neg (by decide) (fin q hq)
  | succ k ih =>
    intro q rh g hr hk
    by_cases hq : q = (u * 4294967296 + un1) / y
    · exact ih q rh g hr (by omega)
    · have hlt : (u * 4294967296 + un1) / y < q := by have := g.q0; omega
      have ht := (Cx n g hr).mpr hlt
      have g' := Hd n g hlt
      have rh0 := g.rh0
      have gq1 := g.q1
      have on : Ev (fun f => bz.j1 f y 0 y1 y0 u un1 un0 q rh true) ((u * 4294967296 + un1) / y * 4294967296 + ((u * 4294967296 + un1) % y * 4294967296 + un0) / y, ((u * 4294967296 + un1) % y * 4294967296 + un0) % y) := by
        refine Ev.succ ?_
        simp only [bz.j1]
        rw [wu64 (x := rh + y1) (by omega) (by omega), wu64 (x := q - 1) (by omega) (by omega)]
        refine Ev.pos trivial ?_
        by_cases hb : rh + y1 ≥ 4294967296
        · exact Ev.pos hb (fin (q - 1) (He n g' hb (by omega)))
        · exact Ev.neg hb (ih (q - 1) (rh + y1) g' (by omega) (by omega))
      refine Ev.succ ?_
      simp only [bz.l0]
      by_cases hbig : q ≥ 4294967296
      · exact Ev.pos hbig on
      · refine Ev.neg hbig ?_
        have p := prod32 (show 0 ≤ q by omega) g.q1 n.l0 n.h0
        rw [wu64 (x := q * y0) (by omega) (by omega), wu64 (x := 4294967296 * rh) (by omega) (by omega), wu64 (x := 4294967296 * rh + un1) (by omega) (by omega),
          decide_eq_true (by rcases ht with h | h; exact absurd h hbig; exact h)]
        exact on

theorem Hy {u y : Int} (u0 : 0 < u) (u1 : u < y) (y0 : 9223372036854775808 ≤ y) (y1 : y < 18446744073709551616) :
    Ev (fun k => bz.f k u 0 y) (u * 18446744073709551616 / y, u * 18446744073709551616 % y) := by
  have hy0 : 0 < y := by omega
  have hU : U y := ⟨by omega, y1⟩
  have bl : jg y = 64 := F4 (by decide) (by rw [show p2 (64 - 1) = 9223372036854775808 from by decide]; exact y0) (by rw [Be]; exact y1)
  have lz : Ev (fun k => bits_LeadingZeros64.f k y) 0 := by
    unfold bits_LeadingZeros64.f
    refine Ev.bind (Bv hU) ?_
    rw [bl, w64 (x := 64 - 64) (by decide) (by decide)]
    exact Ev.now _
  have n : Norm y (y / 4294967296) (y % 4294967296) := ⟨by omega, by omega, by omega, by omega, by omega⟩
  have g := F5 (u := u) (d := 0) n (by omega) u1 (by decide) (by decide)
  have hq0 : 0 < y / 4294967296 := by omega
  have m := Int.mul_ediv_add_emod u (y / 4294967296)
  have s0 := Int.emod_nonneg u (Int.ne_of_gt hq0)
  have s1 := Int.emod_lt_of_pos u hq0
  have c : u / (y / 4294967296) * (y / 4294967296) = y / 4294967296 * (u / (y / 4294967296)) := Int.mul_comm _ _
  have qn : 0 ≤ u / (y / 4294967296) := Int.ediv_nonneg (by omega) (by omega)
  have qy := Int.mul_nonneg qn (show 0 ≤ y / 4294967296 by omega)
  have gq := g.q1
  have hd := high_digit (un1 := 0) (un0 := 0) n y1 (by omega) u1 (by decide) (by decide) (by decide) (by decide) _ _ _ g (by omega) (Nat.le_refl _)
  -- the two digits are the quotient
  have e : u * 18446744073709551616 / y = (u * 4294967296 + 0) / y * 4294967296 + ((u * 4294967296 + 0) % y * 4294967296 + 0) / y ∧ u * 18446744073709551616 % y = ((u * 4294967296 + 0) % y * 4294967296 + 0) % y := by
    rw [Int.add_zero, Int.add_zero]
    have md := Int.mul_ediv_add_emod (u * 4294967296) y
    have e1 : u * 18446744073709551616 = u * 4294967296 % y * 4294967296 + y * (u * 4294967296 / y * 4294967296) := by
      generalize u * 4294967296 % y = R at *
      generalize u * 4294967296 / y = Q at *
      have : y * (Q * 4294967296) = y * Q * 4294967296 := by grind
      omega
    rw [e1]
    constructor
    · rw [Int.add_mul_ediv_left _ _ (Int.ne_of_gt hy0)]; omega
    · rw [Int.add_mul_emod_self_left]
  rw [e.1, e.2]
  unfold bz.f
  refine Ev.neg (by omega) (Ev.neg (by omega) (Ev.neg (by omega) (Ev.bind lz ?_)))
  rw [show IntKind.u64.wrap 0 = 0 from by decide, show IntKind.u64.wrap (64 - 0) = 64 from by decide]
  have ey : shl .u64 y 0 = y := by rw [Bu (by decide) (by decide), p2_0]; omega
  have eu : shl .u64 u 0 = u := by rw [Bu (by decide) (by decide), p2_0]; omega
  have e0 : shl .u64 0 0 = 0 := by decide
  have es : shr .u64 0 64 = 0 := by decide
  have eo : bits .or .u64 u 0 = u := by
    have := u64_or 0 (x := u) (y := 0) (by omega) (by simp) (by omega) (by decide) (by decide) (by decide)
    rw [this, Int.add_zero]
  rw [ey, eu, e0, es, eo, Dw (by omega) y1, show bits .and .u64 0 4294967295 = 0 from by decide]
  refine Ev.pos (by decide) (Ev.pos (by decide) (Ev.neg (by omega) ?_))
  rw [Int.tdiv_eq_ediv_of_nonneg (by omega), wu64 (x := u / (y / 4294967296)) qn (by omega), wu64 (x := u / (y / 4294967296) * (y / 4294967296)) (by omega) (by omega), wu64 (x := u - u / (y / 4294967296) * (y / 4294967296)) (by omega) (by omega)]
  exact hd
theorem wide_Div_ev {u y : Int} (u0 : 0 < u) (u1 : u < y) (y0 : 9223372036854775808 ≤ y) (y1 : y < 18446744073709551616) :
    Ev (fun k => l7.f k u 0 y) (u * 18446744073709551616 / y, u * 18446744073709551616 % y, true) := by
  unfold l7.f
  exact Ev.neg (by omega) (Ev.bind (Hy u0 u1 y0 y1) (Ev.now _))

theorem div_nan {a b : Int} (ha : U a) (hb : U b) (h : (ll a || ll b) = true) : Ev (fun k => fu.f k a b) (Ci, nanF a b) := by
  unfold fu.f
  refine Ev.bind (Ay ha hb) ?_
  exact Ev.pos h (Ev.now _)
def uw (a b : Int) : Bool := (decide (mag a = INF) && decide (mag b = INF)) || (decide (mag a = 0) && decide (mag b = 0))
theorem D5 {a b : Int} (ha : U a) (hb : U b) (h : (ll a || ll b) = false) {r : Int × Int}
    (hk : Ev (fun k => fu.j0 k a b (neg a != neg b) (kindOf (mag a)) (kindOf (mag b)) (uw a b)) r) : Ev (fun k => fu.f k a b) r := by
  unfold fu.f
  refine Ev.bind (Ay ha hb) (Ev.neg (by simp only [h]; decide) (Ev.call (wu ha) (Ev.call (wu hb) (Ev.bind (qi ha) (Ev.bind (qi hb) ?_)))))
  rw [Bd, Bd, Gi, Gi]
  have kz : ∀ c : Int, (kindOf (mag c) == 1) = decide (mag c = 0) := fun c => by
    rw [Bool.eq_iff_iff]; simp only [beq_iff_eq, decide_eq_true_eq]; exact ry
  have I0 : (INF : Int) ≠ 0 := by decide
  rw [kz]
  by_cases c1 : kindOf (mag a) = 4
  · have m1 := om.mp c1
    have n1 : ¬ kindOf (mag a) = 1 := by rw [c1]; decide
    by_cases c2 : kindOf (mag b) = 4
    · have m2 := om.mp c2
      have e : uw a b = true := by unfold uw; rw [m1, m2]; decide
      rw [e] at hk
      exact Ev.pos c1 (Ev.pos c2 hk)
    · have m2 : mag b ≠ INF := fun h => c2 (om.mpr h)
      have e : uw a b = false := by unfold uw; rw [m1]; simp [m2, I0]
      rw [e] at hk
      exact Ev.pos c1 (Ev.neg c2 (Ev.neg n1 hk))
  · have m1 : mag a ≠ INF := fun h => c1 (om.mpr h)
    by_cases c2 : kindOf (mag a) = 1
    · have m2 := ry.mp c2
      have e : uw a b = decide (mag b = 0) := by unfold uw; rw [m2]; simp [Ne.symm I0]
      rw [e] at hk
      exact Ev.neg c1 (Ev.pos c2 hk)
    · have m2 : mag a ≠ 0 := fun h => c2 (ry.mpr h)
      have e : uw a b = false := by unfold uw; simp [m1, m2]
      rw [e] at hk
      exact Ev.neg c1 (Ev.neg c2 hk)
theorem div_bad {a b : Int} (ha : U a) (hb : U b) (h : uw a b = true) : Ev (fun k => fu.f k a b) (Ci, 16) := by
  refine D5 ha hb ?_ ?_
  · unfold uw at h
    have h0 : ll a = false ∧ ll b = false := by
      unfold ll INF at *
      simp at h ⊢
      omega
    rw [h0.1, h0.2]; rfl
  · refine Ev.succ ?_
    simp only [fu.j0]
    exact Ev.pos h (Ev.now _)
theorem div_infa {a b : Int} (ha : U a) (hb : U b) (h1 : mag a = INF) (h2 : fin b) : Ev (fun k => fu.f k a b) (signed (neg a != neg b) INF, 0) := by
  refine D5 ha hb (by rw [wo h2]; unfold ll; rw [h1]; decide) (Ev.succ ?_)
  simp only [fu.j0]
  have hb0 : uw a b = false := by
    have : mag b ≠ INF := by unfold fin at h2; omega
    unfold uw; rw [h1]; simp [this]; intro h; exact absurd h (by decide)
  exact Ev.neg (by rw [hb0]; decide) (Ev.pos (om.mpr h1) (Ev.call (Ey _) (Ev.now _)))
theorem div_infb {a b : Int} (ha : U a) (hb : U b) (h1 : fin a) (h2 : mag b = INF) : Ev (fun k => fu.f k a b) (signed (neg a != neg b) 0, 0) := by
  have h3 : mag a ≠ INF := by unfold fin at h1; omega
  refine D5 ha hb (by rw [wo h1]; unfold ll; rw [h2]; decide) (Ev.succ ?_)
  simp only [fu.j0]
  have hb0 : uw a b = false := by
    unfold uw; rw [h2]; simp [h3]; intro _ h; exact absurd h (by decide)
  refine Ev.neg (by rw [hb0]; decide) (Ev.neg (fun h => h3 (om.mp h)) (Ev.pos (om.mpr h2) (Ev.succ ?_)))
  simp only [fu.j1]
  exact Ev.pos trivial (Ev.call (make_zero _) (Ev.now _))
theorem Bw {a b : Int} (ha : U a) (hb : U b) (fa : fin a) (fb : fin b) (h0 : ¬ (mag a = 0 ∧ mag b = 0)) {r : Int × Int}
    (h : Ev (fun k => fu.j1 k a b (neg a != neg b) (kindOf (mag b)) (decide (mag a = 0))) r) : Ev (fun k => fu.f k a b) r := by
  have h3 : mag a ≠ INF := by unfold fin at fa; omega
  have h4 : mag b ≠ INF := by unfold fin at fb; omega
  have kz : (kindOf (mag a) == 1) = decide (mag a = 0) := by
    rw [Bool.eq_iff_iff]; simp only [beq_iff_eq, decide_eq_true_eq]; exact ry
  refine D5 ha hb (by rw [wo fa, wo fb]; rfl) (Ev.succ ?_)
  simp only [fu.j0]
  have hb0 : uw a b = false := by
    unfold uw; simp [h3]; intro h; exact fun h' => h0 ⟨h, h'⟩
  refine Ev.neg (by rw [hb0]; decide) (Ev.neg (fun h => h3 (om.mp h)) (Ev.neg (fun h => h4 (om.mp h)) ?_))
  rw [kz]
  exact h
theorem div_zero {a b : Int} (ha : U a) (hb : U b) (fa : fin a) (za : mag a ≠ 0) (zb : mag b = 0) : Ev (fun k => fu.f k a b) (signed (neg a != neg b) INF, 8) := by
  refine Bw ha hb fa (by unfold fin; rw [zb]; decide) (fun h => za h.1) (Ev.succ ?_)
  simp only [fu.j1]
  exact Ev.neg (by simp [za]) (Ev.pos (ry.mpr zb) (Ev.call (Ey _) (Ev.now _)))

theorem div_fin {a b : Int} (ha : U a) (hb : U b) (fa : fin a) (fb : fin b) (zb : mag b ≠ 0) : ∃ r f, Ev (fun k => fu.f k a b) (r, f) ∧ Rd (val a / val b) (neg a != neg b) r f := by
  have vb0 : val b ≠ 0 := fun h => zb (qg.mp h)
  by_cases za : mag a = 0
  · refine ⟨_, 0, Bw ha hb fa fb (fun h => zb h.2) (Ev.succ ?_), ⟨fun _ => ⟨rfl, rfl⟩, fun h => absurd ?_ h⟩⟩
    · simp only [fu.j1]
      exact Ev.pos (by simp [za]) (Ev.call (make_zero _) (Ev.now _))
    · rw [qg.mpr za, Rat.div_def]; grind
  · have ma0 := (yt (a := a)).1
    have mb0 := (yt (a := b)).1
    have pa := yf ha (show 0 < mag a by omega) fa
    have pb := yf hb (show 0 < mag b by omega) fb
    obtain ⟨ea1, ea2⟩ := Ck fa
    obtain ⟨eb1, eb2⟩ := Ck fb
    have ma := Bc (m := mag a) (by omega)
    have ma' := Br (m := mag a)
    have mb := Bc (m := mag b) (by omega)
    have mb' := Br (m := mag b)
    have va : vm (mag a) = (xx (mag a) : Rat) * pw (xq (mag a)) := rfl
    have vb : vm (mag b) = (xx (mag b) : Rat) * pw (xq (mag b)) := rfl
    have emag : ∀ c : Int, c % 9223372036854775808 = mag c := fun _ => rfl
    rw [emag] at pa pb
    generalize hM : xx (mag a) = M at *
    generalize hN : xx (mag b) = N at *
    generalize hE : xq (mag a) = E at *
    generalize hG : xq (mag b) = G at *
    obtain ⟨bm1, bm2, bm3⟩ := zl ma
    obtain ⟨bn1, bn2, bn3⟩ := zl mb
    have hLm : jg M ≤ 53 := Bp (by decide) (by rw [show p2 53 = 9007199254740992 from by decide]; omega)
    have hLn : jg N ≤ 53 := Bp (by decide) (by rw [show p2 53 = 9007199254740992 from by decide]; omega)
    -- the shifted numbers
    have hs : 0 ≤ 53 - jg M + 10 := by omega
    have ht : 0 ≤ 64 - jg N := by omega
    have hP := qz (53 - jg M + 10)
    have hQ := qz (64 - jg N)
    have u0 : 4611686018427387904 ≤ M * p2 (53 - jg M + 10) := by
      have e : (4611686018427387904 : Int) = p2 (jg M - 1) * p2 (53 - jg M + 10) := by rw [← xm (by omega) hs, show jg M - 1 + (53 - jg M + 10) = 62 from by omega]; decide
      rw [e]; exact Int.mul_le_mul_of_nonneg_right bm2 (by omega)
    have u1 : M * p2 (53 - jg M + 10) < 9223372036854775808 := by
      have e : (9223372036854775808 : Int) = p2 (jg M) * p2 (53 - jg M + 10) := by rw [← xm (by omega) hs, show jg M + (53 - jg M + 10) = 63 from by omega]; decide
      rw [e]; exact Int.mul_lt_mul_of_pos_right bm3 hP
    have y0 : 9223372036854775808 ≤ N * p2 (64 - jg N) := by
      have e : (9223372036854775808 : Int) = p2 (jg N - 1) * p2 (64 - jg N) := by rw [← xm (by omega) ht, show jg N - 1 + (64 - jg N) = 63 from by omega]; decide
      rw [e]; exact Int.mul_le_mul_of_nonneg_right bn2 (by omega)
    have y1 : N * p2 (64 - jg N) < 18446744073709551616 := by
      have e : (18446744073709551616 : Int) = p2 (jg N) * p2 (64 - jg N) := by rw [← xm (by omega) ht, show jg N + (64 - jg N) = 64 from by omega]; decide
      rw [e]; exact Int.mul_lt_mul_of_pos_right bn3 hQ
    have dv := wide_Div_ev (u := M * p2 (53 - jg M + 10)) (y := N * p2 (64 - jg N)) (by omega) (by omega) y0 y1
    have es : shl .u64 M (53 - jg M + 10) = M * p2 (53 - jg M + 10) := by rw [Bu hs (by omega)]; exact Int.emod_eq_of_lt (by omega) (by omega)
    have et : shl .u64 N (64 - jg N) = N * p2 (64 - jg N) := by rw [Bu ht (by omega)]; exact Int.emod_eq_of_lt (by omega) (by omega)
    -- the quotient as a number
    have hx : jh (val a / val b) * ((N * p2 (64 - jg N) : Int) : Rat) = ((M * p2 (53 - jg M + 10) * 18446744073709551616 : Int) : Rat) * pw (E - (53 - jg M) - 10 - 64 - (G - (64 - jg N))) := by
      have e1 : jh (val a / val b) * vm (mag b) = vm (mag a) := by
        have p1 := yh (m := mag a) (by omega)
        have p2 := yh (m := mag b) (by omega)
        have e0 : val a / val b * val b = val a := by rw [Rat.div_mul_cancel vb0]
        have e3 : jh (val a / val b) * jh (val b) = jh (val a) := by
          rw [← G5, e0]
        rw [Gp, Gp] at e3
        exact e3
      rw [va, vb] at e1
      have w1 : ((p2 (53 - jg M + 10) : Int) : Rat) = pw (53 - jg M + 10) := (Ao hs).symm
      have w2 : ((p2 (64 - jg N) : Int) : Rat) = pw (64 - jg N) := (Ao ht).symm
      have w3 : (18446744073709551616 : Rat) = pw 64 := by rw [Ao (by decide), Be]; rfl
      push_cast
      rw [w1, w2, w3]
      -- multiply by 2^G
      have hG' := zi G
      have k1 : (jh (val a / val b) * ((N : Rat) * pw (64 - jg N))) * pw G = ((M : Rat) * pw (53 - jg M + 10) * pw 64 * pw (E - (53 - jg M) - 10 - 64 - (G - (64 - jg N)))) * pw G := by
        have k2 : pw (53 - jg M + 10) * pw 64 * pw (E - (53 - jg M) - 10 - 64 - (G - (64 - jg N))) * pw G = pw E * pw (64 - jg N) := by
          rw [← uj, ← uj, ← uj, ← uj]; congr 1; omega
        have k3 : (jh (val a / val b) * ((N : Rat) * pw (64 - jg N))) * pw G = (jh (val a / val b) * ((N : Rat) * pw G)) * pw (64 - jg N) := by grind
        rw [k3, e1]
        grind
      exact Rat.le_antisymm (Rat.le_of_mul_le_mul_right (by rw [k1]; exact Rat.le_refl) hG') (Rat.le_of_mul_le_mul_right (by rw [k1]; exact Rat.le_refl) hG')
    have hX0 : 0 < jh (val a / val b) := by
      refine rabs_pos (fun h => ?_)
      have : val a = 0 := by
        have e0 : val a / val b * val b = val a := by rw [Rat.div_mul_cancel vb0]
        rw [← e0, h]; grind
      exact za (qg.mp this)
    generalize hu : M * p2 (53 - jg M + 10) = u at *
    generalize hy : N * p2 (64 - jg N) = y at *
    generalize hD : E - (53 - jg M) - 10 - 64 - (G - (64 - jg N)) = D at *
    have yp : 0 < y := by omega
    have md := Int.mul_ediv_add_emod (u * 18446744073709551616) y
    have r0 := Int.emod_nonneg (u * 18446744073709551616) (Int.ne_of_gt yp)
    have r1 := Int.emod_lt_of_pos (u * 18446744073709551616) yp
    have q0 : 4611686018427387904 ≤ u * 18446744073709551616 / y := by apply Int.le_ediv_of_mul_le yp; omega
    have q1 : u * 18446744073709551616 / y < 18446744073709551616 := by apply Int.ediv_lt_of_lt_mul yp; omega
    generalize hq : u * 18446744073709551616 / y = q at *
    generalize hr : u * 18446744073709551616 % y = r at *
    have hyr : (0 : Rat) < (y : Rat) := by exact_mod_cast yp
    have hw : wv 0 q = q := by unfold wv; omega
    have hblen : 54 ≤ jg q := by
      obtain ⟨c1, c2, c3⟩ := zl (x := q) (by omega)
      refine Decidable.byContradiction fun hc => ?_
      have := Ag (show jg q ≤ 53 from by omega)
      have e53 : p2 53 = 9007199254740992 := by decide
      omega
    have bd : -100000 ≤ D ∧ D ≤ 100000 := by omega
    obtain ⟨m, f, er, rb⟩ := Aa (neg a != neg b) U_0 ⟨by omega, q1⟩ bd.1 bd.2 (r != 0) (x := jh (val a / val b)) (by rw [hw]; omega)
      (by intro h
          have h : r = 0 := by simpa using h
          rw [hw]
          have e1 : u * 18446744073709551616 = q * y := by rw [Int.mul_comm q]; omega
          rw [e1] at hx
          have e2 : jh (val a / val b) * (y : Rat) = ((q : Rat) * pw D) * (y : Rat) := by push_cast at hx; grind
          exact Rat.le_antisymm (Rat.le_of_mul_le_mul_right (by rw [e2]; exact Rat.le_refl) hyr) (Rat.le_of_mul_le_mul_right (by rw [e2]; exact Rat.le_refl) hyr))
      (by intro h
          have h : r ≠ 0 := by simpa using h
          rw [hw]
          refine ⟨⟨?_, ?_⟩, hblen⟩
          · refine Rat.lt_of_mul_lt_mul_right (c := (y : Rat)) ?_ (Rat.le_of_lt hyr)
            rw [hx]
            have h1 : (y * q : Int) * pw D < (u * 18446744073709551616 : Int) * pw D := qb.mpr (by omega)
            push_cast at h1 ⊢; grind
          · refine Rat.lt_of_mul_lt_mul_right (c := (y : Rat)) ?_ (Rat.le_of_lt hyr)
            rw [hx]
            have h2 : y * (q + 1) = y * q + y := by grind
            have h1 : (u * 18446744073709551616 : Int) * pw D < (y * (q + 1) : Int) * pw D := qb.mpr (by omega)
            push_cast at h1 ⊢; grind)
    refine ⟨signed (neg a != neg b) m, f, Bw ha hb fa fb (fun h => za h.1) (Ev.succ ?_), ⟨fun h => ?_, fun _ => ⟨m, rb, ?_⟩⟩⟩
    · simp only [fu.j1]
      refine Ev.neg (by simp [za]) (Ev.neg (fun h => zb (ry.mp h)) (Ev.bind pa (Ev.bind pb ?_)))
      dsimp only
      have l1 : wv 0 M = M := by unfold wv; omega
      have l2 : wv 0 N = N := by unfold wv; omega
      have k1 := Dm (h := 0) (l := M) U_0 ⟨by omega, by omega⟩
      have k2 := Dm (h := 0) (l := N) U_0 ⟨by omega, by omega⟩
      rw [l1] at k1
      rw [l2] at k2
      refine Ev.bind k1 (Ev.bind k2 ?_)
      rw [w64 (x := 53 - jg M) (by omega) (by omega), w64 (x := 53 - jg M + 10) (by omega) (by omega), w64 (x := 64 - jg N) (by omega) (by omega), es, et,
        w64 (x := E - (53 - jg M)) (by omega) (by omega), w64 (x := E - (53 - jg M) - 10) (by omega) (by omega), w64 (x := E - (53 - jg M) - 10 - 64) (by omega) (by omega),
        w64 (x := G - (64 - jg N)) (by omega) (by omega), w64 (x := E - (53 - jg M) - 10 - 64 - (G - (64 - jg N))) (by omega) (by omega), hD]
      refine Ev.pos hs (Ev.pos ht (Ev.bind dv ?_))
      exact Ev.bind er (Ev.now _)
    · exfalso
      rw [h] at hX0
      exact absurd hX0 (by decide)
    · congr 1
      have p1 := yh (m := mag a) (by omega)
      have p2 := yh (m := mag b) (by omega)
      have e0 : val a / val b * val b = val a := by rw [Rat.div_mul_cancel vb0]
      have hne : val a / val b ≠ 0 := fun h => by rw [h] at hX0; exact absurd hX0 (by decide)
      have sa := zw a
      have sb := zw b
      generalize val a / val b = X at *
      generalize val a = A at *
      generalize val b = B at *
      by_cases c1 : X < 0
      · rw [decide_eq_true c1]
        cases h1 : neg a <;> cases h2 : neg b <;> rw [h1] at sa <;> rw [h2] at sb <;> simp at sa sb
        · have := Rat.mul_pos (show 0 < -X by grind) (show 0 < B by grind); grind
        · rfl
        · rfl
        · have := Rat.mul_pos (show 0 < -X by grind) (show 0 < -B by grind); grind
      · rw [decide_eq_false c1]
        have c2 : 0 < X := by grind
        cases h1 : neg a <;> cases h2 : neg b <;> rw [h1] at sa <;> rw [h2] at sb <;> simp at sa sb
        · rfl
        · have := Rat.mul_pos c2 (show 0 < -B by grind); grind
        · have := Rat.mul_pos c2 (show 0 < B by grind); grind
        · rfl
def DivR (a b r f : Int) : Prop :=
  if (ll a || ll b) = true then r = Ci ∧ f = nanF a b
  else if uw a b = true then r = Ci ∧ f = 16
  else if mag a = INF then r = signed (neg a != neg b) INF ∧ f = 0
  else if mag b = INF then r = signed (neg a != neg b) 0 ∧ f = 0
  else if mag b = 0 then r = signed (neg a != neg b) INF ∧ f = 8
  else Rd (val a / val b) (neg a != neg b) r f

theorem div_ev {a b : Int} (ha : U a) (hb : U b) : ∃ r f, Ev (fun k => fu.f k a b) (r, f) ∧ DivR a b r f := by
  unfold DivR
  by_cases h : (ll a || ll b) = true
  · exact ⟨_, _, div_nan ha hb h, by rw [if_pos h]; exact ⟨rfl, rfl⟩⟩
  · obtain ⟨h0, na, nb⟩ := nan_or h
    by_cases iz : uw a b = true
    · exact ⟨_, _, div_bad ha hb iz, by rw [if_neg h, if_pos iz]; exact ⟨rfl, rfl⟩⟩
    · by_cases ia : mag a = INF
      · have ib : mag b ≠ INF := fun hh => iz (by unfold uw; rw [ia, hh]; decide)
        exact ⟨_, _, div_infa ha hb ia (Bz nb ib), by rw [if_neg h, if_neg iz, if_pos ia]; exact ⟨rfl, rfl⟩⟩
      · by_cases ib : mag b = INF
        · exact ⟨_, _, div_infb ha hb (Bz na ia) ib, by rw [if_neg h, if_neg iz, if_neg ia, if_pos ib]; exact ⟨rfl, rfl⟩⟩
        · by_cases zb : mag b = 0
          · have za : mag a ≠ 0 := fun hh => iz (by unfold uw; rw [zb, hh]; decide)
            exact ⟨_, _, div_zero ha hb (Bz na ia) za zb, by rw [if_neg h, if_neg iz, if_neg ia, if_neg ib, if_pos zb]; exact ⟨rfl, rfl⟩⟩
          · obtain ⟨r, f, ev, rd⟩ := div_fin ha hb (Bz na ia) (Bz nb ib) zb
            exact ⟨r, f, ev, by rw [if_neg h, if_neg iz, if_neg ia, if_neg ib, if_neg zb]; exact rd⟩
theorem DivR.unique {a b r f r' f' : Int} (h : DivR a b r f) (h' : DivR a b r' f') : r = r' ∧ f = f' := by
  unfold DivR at h h'
  by_cases c1 : (ll a || ll b) = true
  · rw [if_pos c1] at h h'; omega
  · rw [if_neg c1] at h h'
    by_cases c2 : uw a b = true
    · rw [if_pos c2] at h h'; omega
    · rw [if_neg c2] at h h'
      by_cases c3 : mag a = INF
      · rw [if_pos c3] at h h'; omega
      · rw [if_neg c3] at h h'
        by_cases c4 : mag b = INF
        · rw [if_pos c4] at h h'; omega
        · rw [if_neg c4] at h h'
          by_cases c5 : mag b = 0
          · rw [if_pos c5] at h h'; omega
          · rw [if_neg c5] at h h'; exact h.unique h'
theorem DivR.flags {a b r f : Int} (h : DivR a b r f) : 0 ≤ f ∧ f ≤ 16 := by
  have := nanF_le a b
  unfold DivR at h
  split at h
  · omega
  · split at h
    · omega
    · split at h
      · omega
      · split at h
        · omega
        · split at h
          · omega
          · exact h.flags
end Gim

end

section
namespace Gim
open Go Go.RowKit Go.Proofs.YtnjobojkoaknpaaDoorW.PrintWords Go.Proofs.YtnjobojkoaknpaaDoorW.PrintLast Go.Proofs.YtnjobojkoaknpaaDoorW.PrintMore Go.Proofs.YtnjobojkoaknpaaDoor.F
set_option linter.unusedVariables false

theorem DivR.rangeU {a b r f : Int} (h : DivR a b r f) : U r := by
  unfold DivR at h
  have q : U Ci := by unfold Ci U; decide
  split at h
  · rw [h.1]; exact q
  · split at h
    · rw [h.1]; exact q
    · split at h
      · rw [h.1]; exact Ch Fe.1 Fe.2
      · split at h
        · rw [h.1]; exact Ch (by decide) (by decide)
        · split at h
          · rw [h.1]; exact Ch Fe.1 Fe.2
          · exact h.range.1
noncomputable def dP (a b : Int) : Int × Int := resOf (fun k => fu.f k a b)
theorem dP_ev {a b : Int} (ha : U a) (hb : U b) : Ev (fun k => fu.f k a b) (dP a b) := by
  obtain ⟨r, f, ev, R⟩ := div_ev ha hb
  exact Ev.resE ev
theorem dP_R {a b : Int} (ha : U a) (hb : U b) : DivR a b (dP a b).1 (dP a b).2 := by
  obtain ⟨r, f, ev, R⟩ := div_ev ha hb
  rw [Ev.det (dP_ev ha hb) ev]
  exact R
end Gim

end

section
namespace Gim
open Go Go.RowKit Go.Proofs.YtnjobojkoaknpaaDoorW.PrintWords Go.Proofs.YtnjobojkoaknpaaDoorW.PrintLast Go.Proofs.YtnjobojkoaknpaaDoorW.PrintMore Go.Proofs.YtnjobojkoaknpaaDoor.F
set_option linter.unusedVariables false

theorem word_Flip_eq {a : Int} (h : U a) : z8.f a = some (flip a) := by unfold z8.f flip; rw [u64_xor h.1 h.2]
end Gim

end

section
namespace Gim
open Go Go.RowKit Go.Proofs.YtnjobojkoaknpaaDoorW.PrintWords Go.Proofs.YtnjobojkoaknpaaDoorW.PrintLast Go.Proofs.YtnjobojkoaknpaaDoorW.PrintMore Go.Proofs.YtnjobojkoaknpaaDoor.F
set_option linter.unusedVariables false

theorem sub_of_add {a b : Int} (hb : U b) {r : Int × Int} (h : Ev (fun k => bi.f k a (flip b)) r) : Ev (fun k => tq.f k a b) r := by
  unfold tq.f
  exact Ev.call (word_Flip_eq hb) (Ev.bind h (Ev.now _))
end Gim

end

section
namespace Gim
open Go Go.RowKit Go.Proofs.YtnjobojkoaknpaaDoorW.PrintWords Go.Proofs.YtnjobojkoaknpaaDoorW.PrintLast Go.Proofs.YtnjobojkoaknpaaDoorW.PrintMore Go.Proofs.YtnjobojkoaknpaaDoor.F
set_option linter.unusedVariables false

noncomputable def cS (F a b : Int) : Int × Int := (av a (flip b), Go.bits .or .u8 F (aP a (flip b)).2)
noncomputable def cM (F a b : Int) : Int × Int := (mv a b, Go.bits .or .u8 F (mP a b).2)
noncomputable def cD (F a b : Int) : Int × Int := ((dP a b).1, Go.bits .or .u8 F (dP a b).2)
theorem cM_ev {F a b : Int} (ha : U a) (hb : U b) : Ev (fun k => o7.f k F a b) (cM F a b) := by
  unfold o7.f
  exact Ev.bind (mP_ev ha hb) (Ev.call rfl (Ev.now _))
theorem cS_ev {F a b : Int} (ha : U a) (hb : U b) : Ev (fun k => oz.f k F a b) (cS F a b) := by
  unfold oz.f
  exact Ev.bind (sub_of_add hb (aP_ev ha (U_flip hb))) (Ev.call rfl (Ev.now _))
theorem cD_ev {F a b : Int} (ha : U a) (hb : U b) : Ev (fun k => o5.f k F a b) (cD F a b) := by
  unfold o5.f
  exact Ev.bind (dP_ev ha hb) (Ev.call rfl (Ev.now _))
theorem cS_U {F a b : Int} (ha : U a) (hb : U b) : U (cS F a b).1 := av_U ha (U_flip hb)
theorem cM_U {F a b : Int} (ha : U a) (hb : U b) : U (cM F a b).1 := mv_U ha hb
theorem cD_U {F a b : Int} (ha : U a) (hb : U b) : U (cD F a b).1 := (dP_R ha hb).rangeU
end Gim

end

section
namespace Gim
open Go Go.RowKit Go.Proofs.YtnjobojkoaknpaaDoorW.PrintWords Go.Proofs.YtnjobojkoaknpaaDoorW.PrintLast Go.Proofs.YtnjobojkoaknpaaDoorW.PrintMore Go.Proofs.YtnjobojkoaknpaaDoor.F
set_option linter.unusedVariables false

def inB (r c s : Int) (d : List Int) (i k : Int) : Prop := 0 ≤ i ∧ i < r ∧ 0 ≤ k ∧ k < c ∧ 0 ≤ s ∧ i * s + k < (d.length : Int)
instance (r c s : Int) (d : List Int) (i k : Int) : Decidable (inB r c s d i k) := by unfold inB; exact inferInstance
def at4 (r c s : Int) (d : List Int) (i k : Int) : Int := if inB r c s d i k then rd d (i * s + k) else 9221120237041090560
def Sm (r c s : Int) : Prop := r ≤ 4096 ∧ c ≤ 4096 ∧ s ≤ 1099511627776

theorem idx_bound {i k r c s : Int} (h : Sm r c s) (h0 : 0 ≤ i) (h1 : i < r) (h2 : 0 ≤ k) (h3 : k < c) (h4 : 0 ≤ s) :
    wrap64 (i * s) = i * s ∧ wrap64 (wrap64 (i * s) + k) = i * s + k ∧ 0 ≤ i * s + k ∧ 0 ≤ i * s ∧ i * s + k ≤ 4503599627374592 := by
  obtain ⟨ha, hb, hc⟩ := h
  obtain ⟨b0, b1⟩ := xg h0 h4 (show i ≤ 4096 by omega) hc
  have e : wrap64 (i * s) = i * s := w64 (by omega) (by omega)
  rw [e]
  exact ⟨rfl, w64 (by omega) (by omega), by omega, b0, by omega⟩
theorem in_eq {r c s : Int} (h : Sm r c s) (d : List Int) (i k : Int) : o6.f r c s d i k = some (decide (inB r c s d i k)) := by
  unfold o6.f
  by_cases h0 : i ≥ 0
  · rw [if_pos h0]
    by_cases h1 : i < r
    · rw [if_pos h1]
      by_cases h2 : k ≥ 0
      · rw [if_pos h2]
        by_cases h3 : k < c
        · rw [if_pos h3]
          by_cases h4 : s ≥ 0
          · rw [if_pos h4, (idx_bound h h0 h1 h2 h3 h4).2.1]
            congr 1
            rw [decide_eq_decide]
            exact ⟨fun h5 => ⟨h0, h1, h2, h3, h4, h5⟩, fun h5 => h5.2.2.2.2.2⟩
          · rw [if_neg h4, decide_eq_false (show ¬ inB r c s d i k from fun hb => h4 hb.2.2.2.2.1)]
        · rw [if_neg h3, decide_eq_false (show ¬ inB r c s d i k from fun hb => h3 hb.2.2.2.1)]
      · rw [if_neg h2, decide_eq_false (show ¬ inB r c s d i k from fun hb => h2 hb.2.2.1)]
    · rw [if_neg h1, decide_eq_false (show ¬ inB r c s d i k from fun hb => h1 hb.2.1)]
  · rw [if_neg h0, decide_eq_false (show ¬ inB r c s d i k from fun hb => h0 hb.1)]
theorem at_eq {r c s : Int} (h : Sm r c s) (d : List Int) (i k : Int) : je.f r c s d i k = some (at4 r c s d i k) := by
  unfold je.f at4
  rw [in_eq h]
  simp only [Option.bind_some]
  by_cases hb : inB r c s d i k
  · obtain ⟨h0, h1, h2, h3, h4, h5⟩ := id hb
    obtain ⟨e1, e2, e3, e4, e5⟩ := idx_bound h h0 h1 h2 h3 h4
    rw [if_pos (decide_eq_true hb), e2, if_pos e3, if_pos h5, if_pos hb]
  · rw [if_neg (by simpa using hb), if_neg hb]
theorem new_eq {R C : Nat} (hR : R ≤ 4096) (hC : C ≤ 4096) : Ab.f R C = some ((R : Int), (C : Int), (C : Int), List.replicate (R * C) 0) := by
  have hm : R * C ≤ 4096 * 4096 := Nat.mul_le_mul hR hC
  have e : wrap64 ((R : Int) * (C : Int)) = ((R * C : Nat) : Int) := by rw [← Int.natCast_mul]; exact w64 (by omega) (by omega)
  unfold Ab.f
  rw [if_neg (by omega), if_neg (by omega), if_neg (by omega), if_neg (by omega), e, if_pos (by omega), if_pos (by omega)]
  rfl
theorem rd_set {l : List Int} {n m : Nat} {v : Int} (h : n < l.length) : rd (l.set n v) (m : Int) = if n = m then v else rd l m := by
  unfold rd
  simp only [Int.toNat_natCast, List.getD_eq_getElem?_getD, List.getElem?_set]
  by_cases e : n = m
  · subst e; simp [h]
  · simp [e]
theorem rd_lt {l : List Int} {n : Nat} (h : n < l.length) : rd l (n : Int) = l[n] := by
  unfold rd; simp [List.getD_eq_getElem?_getD, h]
theorem rd_mem {l : List Int} {i : Int} (h0 : 0 ≤ i) (h : i < (l.length : Int)) : rd l i ∈ l := by
  obtain ⟨n, rfl⟩ := Int.eq_ofNat_of_zero_le h0
  rw [rd_lt (by omega)]; exact List.getElem_mem _

def part (R C : Nat) (g : Nat → Nat → Int) (n : Nat) : List Int := (List.range (R * C)).map fun x => if x < n then g (x / C) (x % C) else 0
theorem row_end {i C : Nat} : i * C + C = (i + 1) * C := by rw [Nat.add_mul]; omega
theorem Sm.nat {R C : Nat} (hR : R ≤ 4096) (hC : C ≤ 4096) : Sm R C C := ⟨by omega, by omega, by omega⟩
theorem at_U {r c s : Int} {d : List Int} (hd : ∀ x ∈ d, U x) (i k : Int) : U (at4 r c s d i k) := by
  unfold at4
  split
  · rename_i h
    obtain ⟨h0, h1, h2, h3, h4, h5⟩ := h
    have := Int.mul_nonneg h0 h4
    exact hd _ (rd_mem (by omega) h5)
  · exact ⟨by decide, by decide⟩
end Gim

end

section
namespace Gim
open Go Go.RowKit Go.Proofs.YtnjobojkoaknpaaDoorW.PrintWords Go.Proofs.YtnjobojkoaknpaaDoorW.PrintLast Go.Proofs.YtnjobojkoaknpaaDoorW.PrintMore Go.Proofs.YtnjobojkoaknpaaDoor.F
set_option linter.unusedVariables false

theorem and7 (x : Int) : Go.bits .and .i64 x 7 = x % 8 := i64_and 3 (by decide) x
def Words (n : Nat) (d : List Int) : Prop := d.length = n ∧ ∀ x ∈ d, U x
theorem Words.set {n : Nat} {d : List Int} (h : Words n d) (i : Nat) {v : Int} (hv : U v) : Words n (d.set i v) := by
  refine ⟨by rw [List.length_set]; exact h.1, fun x hx => ?_⟩
  rcases List.mem_or_eq_of_mem_set hx with hx | hx
  · exact h.2 x hx
  · rw [hx]; exact hv
theorem Words.zeros (n : Nat) : Words n (List.replicate n 0) := ⟨List.length_replicate, fun x hx => by rw [(List.mem_replicate.mp hx).2]; exact ⟨by decide, by decide⟩⟩
end Gim

end

section
namespace Gim
open Go Go.RowKit Go.Proofs.YtnjobojkoaknpaaDoorW.PrintWords Go.Proofs.YtnjobojkoaknpaaDoorW.PrintLast Go.Proofs.YtnjobojkoaknpaaDoorW.PrintMore Go.Proofs.YtnjobojkoaknpaaDoor.F
set_option linter.unusedVariables false

def Am (r c s : Int) : Prop := r < 0 ∨ 4096 < r ∨ c < 0 ∨ 4096 < c ∨ s < c ∨ 1099511627776 < s
instance (r c s : Int) : Decidable (Am r c s) := by unfold Am; exact inferInstance
def Ec (r c s : Int) (d : List Int) : Prop := ¬ Am r c s ∧ (r = 0 ∨ c = 0 ∨ (r - 1) * s + c ≤ (d.length : Int))
instance (r c s : Int) (d : List Int) : Decidable (Ec r c s d) := by unfold Ec; exact inferInstance

theorem Hz (r c s : Int) (d : List Int) : Ev (fun k => ay.j0 k true r c s d) 4 := by
  refine Ev.succ ?_
  simp only [ay.j0]
  exact Ev.pos trivial (Ev.now _)
theorem check_j1 {r c s : Int} (h : ¬ Am r c s) (d : List Int) (b : Bool) (hb : b = decide (r = 0 ∨ c = 0)) :
    Ev (fun k => ay.j1 k b r c s d) (if Ec r c s d then 0 else 4) := by
  unfold Am at h
  refine Ev.succ ?_
  simp only [ay.j1]
  by_cases h0 : r = 0 ∨ c = 0
  · rw [decide_eq_true h0] at hb
    refine Ev.pos hb ?_
    rw [if_pos (show Ec r c s d from ⟨h, by omega⟩)]
    exact Ev.now _
  · rw [decide_eq_false h0] at hb
    refine Ev.neg (by rw [hb]; decide) ?_
    obtain ⟨b0, b1⟩ := xg (a := r - 1) (b := s) (m := 4096) (n := 1099511627776) (by omega) (by omega) (by omega) (by omega)
    rw [w64 (x := r - 1) (by omega) (by omega), w64 (x := (r - 1) * s) (by omega) (by omega), w64 (by omega) (by omega)]
    by_cases h1 : (r - 1) * s + c > (d.length : Int)
    · refine Ev.pos h1 ?_
      rw [if_neg (show ¬ Ec r c s d from fun hh => by have := hh.2; omega)]
      exact Ev.now _
    · refine Ev.neg h1 ?_
      rw [if_pos (show Ec r c s d from ⟨h, by omega⟩)]
      exact Ev.now _
theorem check_j0 {r c s : Int} (h : ¬ Am r c s) (d : List Int) : Ev (fun k => ay.j0 k false r c s d) (if Ec r c s d then 0 else 4) := by
  refine Ev.succ ?_
  simp only [ay.j0]
  refine Ev.neg (by decide) ?_
  by_cases h0 : r = 0
  · exact Ev.pos h0 (check_j1 h d true (by rw [decide_eq_true (.inl h0)]))
  · refine Ev.neg h0 (check_j1 h d _ ?_)
    rw [Bool.eq_iff_iff, beq_iff_eq, decide_eq_true_eq]; omega
theorem check_ev (r c s : Int) (d : List Int) : Ev (fun k => ay.f k r c s d) (if Ec r c s d then 0 else 4) := by
  have hbad : Am r c s → Ev (fun k => ay.j0 k true r c s d) (if Ec r c s d then 0 else 4) := by
    intro hb
    rw [if_neg (fun hh => hh.1 hb)]
    exact Hz r c s d
  unfold ay.f
  unfold Am at hbad
  by_cases h1 : r < 0
  · exact Ev.pos h1 (hbad (by omega))
  · refine Ev.neg h1 ?_
    by_cases h2 : r > 4096
    · exact Ev.pos h2 (hbad (by omega))
    · refine Ev.neg h2 ?_
      by_cases h3 : c < 0
      · exact Ev.pos h3 (hbad (by omega))
      · refine Ev.neg h3 ?_
        by_cases h4 : c > 4096
        · exact Ev.pos h4 (hbad (by omega))
        · refine Ev.neg h4 ?_
          by_cases h5 : s < c
          · exact Ev.pos h5 (hbad (by omega))
          · refine Ev.neg h5 ?_
            by_cases h6 : s > 1099511627776
            · rw [decide_eq_true h6]; exact hbad (by omega)
            · rw [decide_eq_false h6]
              exact check_j0 (by unfold Am; omega) d
theorem isMat_dense {R C : Nat} (hR : R ≤ 4096) (hC : C ≤ 4096) {d : List Int} (hd : d.length = R * C) : Ec R C C d := by
  refine ⟨by unfold Am; omega, ?_⟩
  by_cases h0 : R = 0
  · left; omega
  · right; right
    obtain ⟨q, rfl⟩ : ∃ q, R = q + 1 := ⟨R - 1, by omega⟩
    rw [hd]
    have e : ((q + 1 : Nat) : Int) - 1 = (q : Int) := by omega
    rw [e, ← Int.natCast_mul, ← Int.natCast_add, ← row_end]; omega
theorem Fz {R C : Nat} (hR : R ≤ 4096) (hC : C ≤ 4096) {d : List Int} (hd : d.length = R * C) : Ev (fun k => ay.f k R C C d) 0 := by
  have := check_ev R C C d
  rwa [if_pos (isMat_dense hR hC hd)] at this
end Gim

end

section
namespace Gim
open Go Go.RowKit Go.Proofs.YtnjobojkoaknpaaDoorW.PrintWords Go.Proofs.YtnjobojkoaknpaaDoorW.PrintLast Go.Proofs.YtnjobojkoaknpaaDoorW.PrintMore Go.Proofs.YtnjobojkoaknpaaDoor.F
set_option linter.unusedVariables false
set_option linter.unusedSectionVars false

noncomputable def Ex (A : Nat → Nat → Int) (i k : Nat) (s : List Int × Int) : List Int × Int :=
  (s.1.set i (cS (cM s.2 (A i k) (rd s.1 (k : Int))).2 (rd s.1 (i : Int)) (cM s.2 (A i k) (rd s.1 (k : Int))).1).1,
    (cS (cM s.2 (A i k) (rd s.1 (k : Int))).2 (rd s.1 (i : Int)) (cM s.2 (A i k) (rd s.1 (k : Int))).1).2)
noncomputable def Aw (A : Nat → Nat → Int) (i : Nat) : Nat → Nat → List Int × Int → List Int × Int
  | _, 0, s => s
  | lo, m + 1, s => Aw A i (lo + 1) m (Ex A i lo s)
noncomputable def tDiv (A : Nat → Nat → Int) (one : Bool) (i : Nat) (s : List Int × Int) : List Int × Int :=
  if one = true then s else (s.1.set i (cD s.2 (rd s.1 (i : Int)) (A i i)).1, (cD s.2 (rd s.1 (i : Int)) (A i i)).2)
def rowOf (n : Nat) (up : Bool) (s : Nat) : Nat := if up = true then n - 1 - s else s
def um (up : Bool) (i : Nat) : Nat := if up = true then i + 1 else 0
def nz (n : Nat) (up : Bool) (i : Nat) : Nat := if up = true then n - (i + 1) else i
noncomputable def tOne (n : Nat) (A : Nat → Nat → Int) (up one : Bool) (s : Nat) (x : List Int × Int) : List Int × Int :=
  tDiv A one (rowOf n up s) (Aw A (rowOf n up s) (um up (rowOf n up s)) (nz n up (rowOf n up s)) x)
noncomputable def tRun (n : Nat) (A : Nat → Nat → Int) (up one : Bool) : Nat → Nat → List Int × Int → List Int × Int
  | _, 0, x => x
  | s, m + 1, x => tRun n A up one (s + 1) m (tOne n A up one s x)
theorem Gq {n : Nat} {up : Bool} {s : Nat} (h : s < n) : rowOf n up s < n := by unfold rowOf; split <;> omega
section
variable {n : Nat} {A : Nat → Nat → Int} (hA : ∀ i k, U (A i k))
include hA
theorem rdU {l : List Int} (hl : Words n l) {i : Nat} (hi : i < n) : U (rd l (i : Int)) := hl.2 _ (rd_mem (by omega) (by rw [hl.1]; omega))
theorem tStep_W {i k : Nat} (hi : i < n) (hk : k < n) {s : List Int × Int} (h : Words n s.1) : Words n (Ex A i k s).1 :=
  h.set _ (cS_U (rdU hA h hi) (cM_U (hA i k) (rdU hA h hk)))
theorem tRow_W {i : Nat} (hi : i < n) : ∀ m lo (s : List Int × Int), lo + m ≤ n → Words n s.1 → Words n (Aw A i lo m s).1
  | 0, lo, s, _, h => h
  | m + 1, lo, s, hm, h => tRow_W hi m (lo + 1) _ (by omega) (tStep_W hA hi (by omega) h)
theorem tDiv_W {i : Nat} (hi : i < n) {one : Bool} {s : List Int × Int} (h : Words n s.1) : Words n (tDiv A one i s).1 := by
  unfold tDiv
  split
  · exact h
  · exact h.set _ (cD_U (rdU hA h hi) (hA i i))
theorem tOne_W {up one : Bool} {s : Nat} (hs : s < n) {x : List Int × Int} (h : Words n x.1) : Words n (tOne n A up one s x).1 := by
  have hi := Gq (up := up) hs
  refine tDiv_W hA hi (tRow_W hA hi _ _ _ ?_ h)
  unfold um nz
  split <;> omega
theorem tRun_W {up one : Bool} : ∀ m s (x : List Int × Int), s + m ≤ n → Words n x.1 → Words n (tRun n A up one s m x).1
  | 0, s, x, _, h => h
  | m + 1, s, x, hm, h => tRun_W m (s + 1) _ (by omega) (tOne_W hA (by omega) h)
end
section
variable {n : Nat} (hn : n ≤ 100) {d : List Int} (wd : Words (n * n) d)
include hn wd
theorem at_UU (i k : Nat) : U (at4 n n n d i k) := at_U wd.2 _ _
theorem trsv_l2 {up one : Bool} {i hi s : Nat} (h1 : i < n) (h2 : hi ≤ n) : ∀ m lo (l : List Int) (F : Int), lo + m = hi → Words n l → ∀ {r : List Int × Int × Int},
    Ev (fun K => au.l2 K up one n (Aw (fun i k => at4 n n n d i k) i lo m (l, F)).1 i hi hi n s (Aw (fun i k => at4 n n n d i k) i lo m (l, F)).2 n n n d) r →
    Ev (fun K => au.l2 K up one n l i hi lo n s F n n n d) r := by
  intro m
  induction m with
  | zero =>
    intro lo l F hm hl r h
    obtain rfl : lo = hi := by omega
    exact h
  | succ m ih =>
    intro lo l F hm hl r h
    have lk : lo < n := by omega
    have hA := at_UU hn wd
    have e1 := cM_ev (F := F) (hA i lo) (rdU hA hl lk)
    have e2 := cS_ev (F := (cM F (at4 n n n d i lo) (rd l (lo : Int))).2) (rdU hA hl h1) (cM_U (F := F) (hA i lo) (rdU hA hl lk))
    have W := tStep_W hA (s := (l, F)) h1 lk hl
    have hh := ih (lo + 1) _ _ (by omega) W h
    refine Ev.succ ?_
    simp only [au.l2]
    rw [w64 (x := (lo : Int) + 1) (by omega) (by omega), at_eq (Sm.nat (by omega) (by omega))]
    have hlen := hl.1
    exact Ev.pos (by omega) (Ev.pos (by omega) (Ev.pos (by omega) (Ev.call rfl (Ev.pos (by omega) (Ev.pos (by omega) (Ev.bind e1 (Ev.bind e2 hh)))))))
theorem trsv_l1 {up one : Bool} : ∀ m s (l : List Int) (F : Int), s + m = n → Words n l →
    Ev (fun K => au.l1 K up one n l n s F n n n d) ((tRun n (fun i k => at4 n n n d i k) up one s m (l, F)).1, 0, (tRun n (fun i k => at4 n n n d i k) up one s m (l, F)).2) := by
  intro m
  induction m with
  | zero =>
    intro s l F hm hl
    refine Ev.succ ?_
    simp only [au.l1]
    exact Ev.neg (by omega) (Ev.now _)
  | succ m ih =>
    intro s l F hm hl
    have hA := at_UU hn wd
    have hs : s < n := by omega
    have hi := Gq (up := up) hs
    have W1 : Words n (Aw (fun i k => at4 n n n d i k) (rowOf n up s) (um up (rowOf n up s)) (nz n up (rowOf n up s)) (l, F)).1 := by
      refine tRow_W hA hi _ _ _ ?_ hl
      unfold um nz
      split <;> omega
    have W2 : Words n (tOne n (fun i k => at4 n n n d i k) up one s (l, F)).1 := tOne_W hA hs hl
    have hh := ih (s + 1) (tOne n (fun i k => at4 n n n d i k) up one s (l, F)).1 (tOne n (fun i k => at4 n n n d i k) up one s (l, F)).2 (by omega) W2
    have fin_ : Ev (fun K => au.j3 K up one n l (rowOf n up s : Nat) n s F n n n d) ((tRun n (fun i k => at4 n n n d i k) up one s (m + 1) (l, F)).1, 0, (tRun n (fun i k => at4 n n n d i k) up one s (m + 1) (l, F)).2) := by
      have go : Ev (fun K => au.l2 K up one n l (rowOf n up s : Nat) (um up (rowOf n up s) + nz n up (rowOf n up s) : Nat) (um up (rowOf n up s) : Nat) n s F n n n d)
          ((tRun n (fun i k => at4 n n n d i k) up one s (m + 1) (l, F)).1, 0, (tRun n (fun i k => at4 n n n d i k) up one s (m + 1) (l, F)).2) := by
        refine trsv_l2 hn wd hi ?_ _ _ l F rfl hl ?_
        · unfold um nz; split <;> omega
        · refine Ev.succ ?_
          simp only [au.l2]
          rw [w64 (x := (s : Int) + 1) (by omega) (by omega)]
          refine Ev.neg (by omega) ?_
          have hlen := W1.1
          cases one
          · rw [at_eq (Sm.nat (by omega) (by omega))]
            refine Ev.neg (by simp) (Ev.pos (by omega) (Ev.pos (by omega) (Ev.call rfl (Ev.bind (cD_ev (rdU hA W1 hi) (hA _ _)) hh))))
          · exact Ev.pos rfl hh
      refine Ev.succ ?_
      simp only [au.j3]
      cases up
      · refine Ev.neg (by simp) (Ev.call rfl (Ev.call rfl (Ev.succ ?_)))
        simp only [au.j4]
        have e : um false (rowOf n false s) + nz n false (rowOf n false s) = rowOf n false s := by simp [um, nz]
        rw [e] at go
        exact go
      · refine Ev.pos rfl (Ev.call rfl (Ev.call rfl (Ev.succ ?_)))
        simp only [au.j4]
        have e : um true (rowOf n true s) + nz n true (rowOf n true s) = n := by simp only [um, nz, if_true]; omega
        rw [e] at go
        rw [w64 (by omega) (by omega)]
        exact go
    refine Ev.succ ?_
    simp only [au.l1]
    refine Ev.pos (by omega) ?_
    cases up
    · exact Ev.neg (by simp) fin_
    · refine Ev.pos rfl ?_
      have e : wrap64 (wrap64 ((n : Int) - 1) - (s : Int)) = ((rowOf n true s : Nat) : Int) := by
        rw [w64 (x := (n : Int) - 1) (by omega) (by omega), w64 (by omega) (by omega)]
        simp only [rowOf, if_true]
        omega
      rw [e]
      exact fin_
def bad (n : Nat) (d : List Int) (one : Bool) (i : Nat) : Prop := one = false ∧ mag (at4 n n n d i i) = 0
theorem trsv_l0_ok {up one : Bool} {b : List Int} {F : Int} {r : List Int × Int × Int} : ∀ m i, i + m = n → (∀ j, i ≤ j → j < n → ¬ bad n d one j) →
    Ev (fun K => au.l0 K up one b n n n F n n n d) r → Ev (fun K => au.l0 K up one b n n i F n n n d) r := by
  intro m
  induction m with
  | zero => intro i h1 h2 h; obtain rfl : i = n := by omega
            exact h
  | succ m ih =>
    intro i h1 h2 h
    have hh := ih (i + 1) (by omega) (fun j a c => h2 j (by omega) c) h
    have nb := h2 i (by omega) (by omega)
    refine Ev.succ ?_
    simp only [au.l0]
    rw [w64 (x := (i : Int) + 1) (by omega) (by omega), at_eq (Sm.nat (by omega) (by omega))]
    refine Ev.pos (by omega) ?_
    cases one
    · refine Ev.neg (by simp) (Ev.call rfl (Ev.bind (qi (at_UU hn wd i i)) (Ev.neg ?_ hh)))
      intro k1
      exact nb ⟨rfl, kind1.mp k1⟩
    · exact Ev.pos rfl hh
theorem trsv_l0_no {up one : Bool} {b : List Int} {F : Int} : ∀ m i, i + m = n → (∃ j, i ≤ j ∧ j < n ∧ bad n d one j) →
    Ev (fun K => au.l0 K up one b n n i F n n n d) ([], 7, F) := by
  intro m
  induction m with
  | zero => intro i h1 h2; obtain ⟨j, h3, h4, _⟩ := h2; omega
  | succ m ih =>
    intro i h1 h2
    refine Ev.succ ?_
    simp only [au.l0]
    rw [w64 (x := (i : Int) + 1) (by omega) (by omega), at_eq (Sm.nat (by omega) (by omega))]
    refine Ev.pos (by omega) ?_
    have o : one = false := by obtain ⟨j, _, _, h5⟩ := h2; exact h5.1
    subst o
    refine Ev.neg (by simp) (Ev.call rfl (Ev.bind (qi (at_UU hn wd i i)) ?_))
    by_cases c : mag (at4 n n n d i i) = 0
    · exact Ev.pos (kind1.mpr c) (Ev.now _)
    · refine Ev.neg (fun k1 => c (kind1.mp k1)) (ih (i + 1) (by omega) ?_)
      obtain ⟨j, h3, h4, h5⟩ := h2
      refine ⟨j, ?_, h4, h5⟩
      rcases Nat.lt_or_eq_of_le h3 with h6 | h6
      · omega
      · subst h6; exact absurd h5.2 c
theorem trsv_ev {up one : Bool} {b : List Int} (wb : Words n b) (F : Int) (h : ∀ j, j < n → ¬ bad n d one j) :
    Ev (fun K => au.f K F n n n d up one b) ((tRun n (fun i k => at4 n n n d i k) up one 0 n (b, F)).1, 0, (tRun n (fun i k => at4 n n n d i k) up one 0 n (b, F)).2) := by
  have hlen := wb.1
  have ne : ((n : Int) != (b.length : Int)) = false := by rw [hlen]; simp
  unfold au.f
  refine Ev.bind (Fz (by omega) (by omega) wd.1) (Ev.pos rfl (Ev.pos rfl (Ev.succ ?_)))
  simp only [au.j0]
  rw [ne, hlen]
  refine Ev.neg (by simp) (trsv_l0_ok hn wd n 0 (by omega) (fun j _ c => h j c) (Ev.succ ?_))
  simp only [au.l0]
  rw [List.nil_append]
  refine Ev.neg (by omega) (Ev.pos (by simp only [List.length_nil]; omega) ?_)
  exact trsv_l1 hn wd n 0 b F (by omega) wb
theorem trsv_no {up one : Bool} {b : List Int} (wb : Words n b) (F : Int) (h : ∃ j, j < n ∧ bad n d one j) :
    Ev (fun K => au.f K F n n n d up one b) ([], 7, F) := by
  have hlen := wb.1
  have ne : ((n : Int) != (b.length : Int)) = false := by rw [hlen]; simp
  obtain ⟨j, h1, h2⟩ := h
  unfold au.f
  refine Ev.bind (Fz (by omega) (by omega) wd.1) (Ev.pos rfl (Ev.pos rfl (Ev.succ ?_)))
  simp only [au.j0]
  rw [ne, hlen]
  exact Ev.neg (by simp) (trsv_l0_no hn wd n 0 (by omega) ⟨j, by omega, h1, h2⟩)
end
end Gim

end

section
namespace Gim
open Go Go.RowKit Go.Proofs.YtnjobojkoaknpaaDoorW.PrintWords Go.Proofs.YtnjobojkoaknpaaDoorW.PrintLast Go.Proofs.YtnjobojkoaknpaaDoorW.PrintMore Go.Proofs.YtnjobojkoaknpaaDoor.F
set_option linter.unusedVariables false

end Gim

end

section
namespace Gim
open Go Go.RowKit Go.Proofs.YtnjobojkoaknpaaDoorW.PrintWords Go.Proofs.YtnjobojkoaknpaaDoorW.PrintLast Go.Proofs.YtnjobojkoaknpaaDoorW.PrintMore Go.Proofs.YtnjobojkoaknpaaDoor.F
set_option linter.unusedVariables false

theorem keep {a : Int} (ha : U a) (fa : fin a) {x : Rat} {z : Bool} {r f : Int} (h : Rd x z r f) (hx : x = val a) (hz : mag a = 0 → z = neg a) : r = a ∧ f = 0 := by
  by_cases h0 : mag a = 0
  · have hx0 : x = 0 := by rw [hx]; exact qg.mpr h0
    obtain ⟨e, hf⟩ := h.zero hx0
    refine ⟨?_, hf⟩
    rw [e, hz h0]
    have := G7 ha
    rw [h0] at this
    exact this
  · subst hx
    have := h.unique (Rd.self ha fa h0 z)
    exact this
theorem mulRd {a b r f : Int} (fa : fin a) (fb : fin b) (h : MulR a b r f) : Rd (val a * val b) (neg a != neg b) r f := by
  unfold MulR at h
  have n1 := Ak fa
  have n2 := Ak fb
  have hz : su a b = false := by unfold su; simp [n1, n2]
  rw [if_neg (by rw [wo fa, wo fb]; decide), if_neg (by rw [hz]; decide), if_neg (by rintro (h | h) <;> contradiction)] at h
  exact h
theorem addRd {a b r f : Int} (fa : fin a) (fb : fin b) (h : AddR a b r f) : Rd (val a + val b) (neg a && neg b) r f := (AddR.fin fa fb).mp h
theorem mv_Rd {a b : Int} (ha : U a) (hb : U b) (fa : fin a) (fb : fin b) : Rd (val a * val b) (neg a != neg b) (mv a b) (mP a b).2 := mulRd fa fb (mP_R ha hb)
theorem av_Rd {a b : Int} (ha : U a) (hb : U b) (fa : fin a) (fb : fin b) : Rd (val a + val b) (neg a && neg b) (av a b) (aP a b).2 := addRd fa fb (aP_R ha hb)
end Gim

end

section
namespace Gim
open Go Go.RowKit Go.Proofs.YtnjobojkoaknpaaDoorW.PrintWords Go.Proofs.YtnjobojkoaknpaaDoorW.PrintLast Go.Proofs.YtnjobojkoaknpaaDoorW.PrintMore Go.Proofs.YtnjobojkoaknpaaDoor.F
set_option linter.unusedVariables false

def ulp : Rat := pw (-53)
theorem Ep : 0 < ulp := zi _
theorem ulp_half (p : Rat) : 2 * (ulp * (((4503599627370496 : Int) : Rat) * p)) = p := by
  have h := Hf 53
  have h2 : pw 53 = ((9007199254740992 : Int) : Rat) := by rw [Ao (by decide)]; rfl
  rw [h2] at h
  have h3 : ((9007199254740992 : Int) : Rat) = 2 * ((4503599627370496 : Int) : Rat) := by decide +kernel
  rw [h3] at h
  unfold ulp
  have e : 2 * (pw (-53) * (((4503599627370496 : Int) : Rat) * p)) = (pw (-53) * (2 * ((4503599627370496 : Int) : Rat))) * p := by grind
  rw [e, h, Rat.one_mul]
theorem RB.err {x : Rat} {m f : Int} (h : RB x m f) (f3 : f ≠ 3) (f5 : f ≠ 5) : m < INF ∧ jh (vm m - x) ≤ ulp * x ∧ jh (vm m - x) ≤ ulp * vm m := by
  obtain ⟨q, n, hr, e1, e2⟩ := h.ex
  have hx := hr.pos
  have up := Ep
  by_cases c : enc q n < INF
  · rw [if_pos c] at e1 e2
    subst e1
    rw [hr.val_enc]
    by_cases c2 : x = (n : Rat) * pw q
    · rw [← c2]
      have z : jh (x - x) = 0 := by unfold jh; grind
      have := Rat.mul_nonneg (Rat.le_of_lt up) (Rat.le_of_lt hx)
      rw [z]
      exact ⟨c, this, this⟩
    · rw [if_neg c2] at e2
      by_cases c3 : x < pw (-1022)
      · rw [if_pos c3] at e2; exact absurd e2 f3
      · have p := zi q
        have lo : ((4503599627370496 : Int) : Rat) * pw q ≤ x := by
          rcases hr.lo with h1 | h1
          · subst h1
            have e : ((4503599627370496 : Int) : Rat) * pw (-1074) = pw (-1022) := by
              have := Ff (-1074) 52
              rw [show (-1074 : Int) + (52 : Nat) = -1022 from by decide] at this
              rw [this]
              rfl
            rw [e]
            grind
          · exact h1
        have hn := hr.n_ge lo
        have hnp : ((4503599627370496 : Int) : Rat) * pw q ≤ (n : Rat) * pw q := Rat.mul_le_mul_of_nonneg_right (Rat.intCast_le_intCast.mpr hn) (Rat.le_of_lt p)
        have k1 := Rat.mul_le_mul_of_nonneg_left lo (Rat.le_of_lt up)
        have k2 := Rat.mul_le_mul_of_nonneg_left hnp (Rat.le_of_lt up)
        have k3 := ulp_half (pw q)
        have n1 := hr.near1
        have n2 := hr.near2
        push_cast at n1 n2
        have b : jh ((n : Rat) * pw q - x) ≤ ulp * (((4503599627370496 : Int) : Rat) * pw q) := by
          generalize ulp * (((4503599627370496 : Int) : Rat) * pw q) = w at k3
          unfold jh
          grind
        exact ⟨c, Rat.le_trans b k1, Rat.le_trans b k2⟩
  · rw [if_neg c] at e2
    exact absurd e2 f5
theorem Dy : jh 0 = 0 := by unfold jh; grind
theorem Dp (x y : Rat) : jh (x + y) ≤ jh x + jh y := by unfold jh; grind
theorem Rd.err {x : Rat} {z : Bool} {r f : Int} (h : Rd x z r f) (f3 : f ≠ 3) (f5 : f ≠ 5) : fin r ∧ jh (val r - x) ≤ ulp * jh x ∧ jh (val r - x) ≤ ulp * jh (val r) := by
  by_cases hx : x = 0
  · obtain ⟨e, _⟩ := h.zero hx
    have m0 : mag r = 0 := by rw [e]; exact zx (by decide) (by decide)
    have v : val r = 0 := qg.mpr m0
    refine ⟨by unfold fin; rw [m0]; decide, ?_, ?_⟩
    · rw [v, hx]
      have : (0 : Rat) - 0 = 0 := by grind
      rw [this, Dy]
      grind
    · rw [v, hx]
      have : (0 : Rat) - 0 = 0 := by grind
      rw [this, Dy]
      grind
  · obtain ⟨m, h1, rfl⟩ := h.num hx
    obtain ⟨e1, e2, e3⟩ := h1.err f3 f5
    have hr := h1.range
    have hI : INF < 9223372036854775808 := by decide
    have vn := Cc (m := m) hr.1
    rw [Eh hr.1 (by omega)]
    refine ⟨by unfold fin; rw [zx hr.1 (by omega)]; exact e1, ?_, ?_⟩
    · by_cases c : x < 0
      · rw [if_pos (by simpa using c)]
        have a : jh (-vm m - x) = jh (vm m - jh x) := by
          have : jh x = -x := by unfold jh; rw [if_pos c]
          rw [this, ← Ba]
          congr 1
          grind
        rw [a]; exact e2
      · rw [if_neg (by simpa using c)]
        have : jh x = x := by unfold jh; rw [if_neg c]
        rw [this] at e2 ⊢
        exact e2
    · by_cases c : x < 0
      · rw [if_pos (by simpa using c)]
        have a : jh (-vm m - x) = jh (vm m - jh x) := by
          have : jh x = -x := by unfold jh; rw [if_pos c]
          rw [this, ← Ba]
          congr 1
          grind
        have b : jh (-vm m) = vm m := by rw [Ba]; unfold jh; grind
        rw [a, b]; exact e3
      · rw [if_neg (by simpa using c)]
        have : jh x = x := by unfold jh; rw [if_neg c]
        have b : jh (vm m) = vm m := by unfold jh; grind
        rw [b]
        rw [this] at e3
        exact e3
def rs (g : Nat → Rat) : Nat → Nat → Rat
  | _, 0 => 0
  | lo, m + 1 => g lo + rs g (lo + 1) m
theorem Fs {g : Nat → Rat} (h : ∀ k, 0 ≤ g k) : ∀ m lo, 0 ≤ rs g lo m
  | 0, _ => by simp [rs]
  | m + 1, lo => by
    have := Fs h m (lo + 1)
    have := h lo
    simp only [rs]
    grind
theorem rs_rabs (g : Nat → Rat) : ∀ m lo, jh (rs g lo m) ≤ rs (fun k => jh (g k)) lo m
  | 0, _ => by simp only [rs]; rw [Dy]; grind
  | m + 1, lo => by
    have := rs_rabs g m (lo + 1)
    simp only [rs]
    exact Rat.le_trans (Dp _ _) (by grind)
theorem row_err {p ph s : Nat → Rat} {t T : Rat} : ∀ (m lo : Nat), m ≤ 12 → (∀ j, lo ≤ j → j < lo + m → jh (ph j - p j) ≤ ulp * jh (p j) ∧ jh (s (j + 1) - (s j - ph j)) ≤ ulp * jh (s (j + 1))) →
    jh (t - s (lo + m)) ≤ ulp * jh t → jh t + rs (fun k => jh (p k)) lo m ≤ T →
    jh (s lo - (t + rs p lo m)) ≤ (1 + (m : Rat) * (9 / 4)) * (ulp * T) := by
  intro m
  induction m with
  | zero =>
    intro lo _ _ h1 h2
    simp only [rs, Nat.add_zero] at h1 h2 ⊢
    have a : jh (s lo - (t + 0)) = jh (t - s lo) := by rw [← Ba]; congr 1; grind
    rw [a]
    have : ulp * jh t ≤ ulp * T := Rat.mul_le_mul_of_nonneg_left (by grind) (Rat.le_of_lt Ep)
    have e : (1 + ((0 : Nat) : Rat) * (9 / 4)) * (ulp * T) = ulp * T := by
      have : ((0 : Nat) : Rat) = 0 := rfl
      rw [this]; grind
    rw [e]
    exact Rat.le_trans h1 this
  | succ m ih =>
    intro lo hm hk h1 h2
    simp only [rs] at h2 ⊢
    obtain ⟨e1, e2⟩ := hk lo (by omega) (by omega)
    have np := Fs (g := fun k => jh (p k)) (fun k => yo _) m (lo + 1)
    have pn := yo (p lo)
    have tn := yo t
    have E := ih (lo + 1) (by omega) (fun j a b => hk j (by omega) (by omega)) (by rw [show lo + 1 + m = lo + (m + 1) from by omega]; exact h1) (by grind)
    have T0 : 0 ≤ T := by grind
    have sum := rs_rabs p m (lo + 1)
    -- what is left is no greater than all, and a little
    have sb : jh (s (lo + 1)) ≤ jh (s (lo + 1) - (t + rs p (lo + 1) m)) + T := by
      have a := Dp (s (lo + 1) - (t + rs p (lo + 1) m)) (t + rs p (lo + 1) m)
      have b := Dp t (rs p (lo + 1) m)
      have c : s (lo + 1) - (t + rs p (lo + 1) m) + (t + rs p (lo + 1) m) = s (lo + 1) := by grind
      rw [c] at a
      grind
    have u0 := Ep
    have uT : 0 ≤ ulp * T := Rat.mul_nonneg (Rat.le_of_lt u0) T0
    have us : ulp * jh (s (lo + 1)) ≤ ulp * (jh (s (lo + 1) - (t + rs p (lo + 1) m)) + T) := Rat.mul_le_mul_of_nonneg_left sb (Rat.le_of_lt u0)
    have ue : ulp * jh (s (lo + 1) - (t + rs p (lo + 1) m)) ≤ ulp * ((1 + (m : Rat) * (9 / 4)) * (ulp * T)) := Rat.mul_le_mul_of_nonneg_left E (Rat.le_of_lt u0)
    have mb : (m : Rat) ≤ 12 := by exact_mod_cast (show m ≤ 12 by omega)
    have m0 : (0 : Rat) ≤ (m : Rat) := by exact_mod_cast Nat.zero_le m
    have small : ulp * (1 + (m : Rat) * (9 / 4)) ≤ 1 / 4 := by
      have a : ulp * (1 + (m : Rat) * (9 / 4)) ≤ ulp * 28 := Rat.mul_le_mul_of_nonneg_left (by grind) (Rat.le_of_lt u0)
      have b : ulp * 28 ≤ 1 / 4 := by decide +kernel
      exact Rat.le_trans a b
    have q : ulp * ((1 + (m : Rat) * (9 / 4)) * (ulp * T)) ≤ 1 / 4 * (ulp * T) := by
      have := Rat.mul_le_mul_of_nonneg_right small uT
      rw [← Rat.mul_assoc]
      exact this
    have up : ulp * jh (p lo) ≤ ulp * T := Rat.mul_le_mul_of_nonneg_left (by grind) (Rat.le_of_lt u0)
    -- what comes of all
    have fin_ : jh (s lo - (t + (p lo + rs p (lo + 1) m))) ≤ jh (s (lo + 1) - (t + rs p (lo + 1) m)) + jh (s (lo + 1) - (s lo - ph lo)) + jh (ph lo - p lo) := by
      have a := Dp (s (lo + 1) - (t + rs p (lo + 1) m)) (-(s (lo + 1) - (s lo - ph lo)) + (ph lo - p lo))
      have b := Dp (-(s (lo + 1) - (s lo - ph lo))) (ph lo - p lo)
      rw [Ba] at b
      have c : s (lo + 1) - (t + rs p (lo + 1) m) + (-(s (lo + 1) - (s lo - ph lo)) + (ph lo - p lo)) = s lo - (t + (p lo + rs p (lo + 1) m)) := by grind
      rw [c] at a
      grind
    have cast : ((m + 1 : Nat) : Rat) = (m : Rat) + 1 := by push_cast; rfl
    rw [cast]
    have dist : ulp * (jh (s (lo + 1) - (t + rs p (lo + 1) m)) + T) = ulp * jh (s (lo + 1) - (t + rs p (lo + 1) m)) + ulp * T := by grind
    rw [dist] at us
    have fin2 : (1 + ((m : Rat) + 1) * (9 / 4)) * (ulp * T) = (1 + (m : Rat) * (9 / 4)) * (ulp * T) + 9 / 4 * (ulp * T) := by grind
    rw [fin2]
    grind
end Gim

end

section
namespace Gim
open Go Go.RowKit Go.Proofs.YtnjobojkoaknpaaDoorW.PrintWords Go.Proofs.YtnjobojkoaknpaaDoorW.PrintLast Go.Proofs.YtnjobojkoaknpaaDoorW.PrintMore Go.Proofs.YtnjobojkoaknpaaDoor.F
set_option linter.unusedVariables false
set_option linter.unusedSectionVars false

def clean (f : Int) : Prop := B8 f &&& 22#8 = 0#8
theorem or_zero8 {a b : BitVec 8} : a ||| b = 0#8 ↔ a = 0#8 ∧ b = 0#8 := by
  constructor
  · intro h
    constructor
    · ext i hi
      have := congrArg (fun v => v.getLsbD i) h
      simp at this
      rw [← BitVec.getLsbD_eq_getElem]
      rw [this.1]
      simp
    · ext i hi
      have := congrArg (fun v => v.getLsbD i) h
      simp at this
      rw [← BitVec.getLsbD_eq_getElem]
      rw [this.2]
      simp
  · rintro ⟨rfl, rfl⟩; decide
theorem Gt (x y : Int) : clean (Go.bits .or .u8 x y) ↔ clean x ∧ clean y := by
  unfold clean
  rw [B8_or]
  have e : (B8 x ||| B8 y) &&& 22#8 = (B8 x &&& 22#8) ||| (B8 y &&& 22#8) := by
    ext i hi
    simp [Bool.and_or_distrib_right]
  rw [e, or_zero8]
theorem and8_eq (x y : Int) : Go.bits .and .u8 x y = ((B8 x &&& B8 y).toNat : Int) := by
  have e : Go.bits .and .u8 x y = IntKind.u8.wrap ((BitVec.ofInt 8 x &&& BitVec.ofInt 8 y).toNat : Int) := rfl
  rw [e]
  unfold B8
  generalize (BitVec.ofInt 8 x &&& BitVec.ofInt 8 y) = v
  have := v.isLt
  simp [IntKind.wrap, IntKind.bits, IntKind.signed]
  omega
theorem and22 {F : Int} (h : Go.bits .and .u8 F 22 = 0) : clean F := by
  rw [and8_eq] at h
  unfold clean
  have e : B8 22 = 22#8 := by decide
  rw [e] at h
  apply BitVec.eq_of_toNat_eq
  simpa using h
theorem Gx {f : Int} (h : clean f) : f ≠ 3 ∧ f ≠ 5 := by
  constructor
  · rintro rfl; revert h; unfold clean; decide
  · rintro rfl; revert h; unfold clean; decide
theorem cM_clean {F a b : Int} (h : clean (cM F a b).2) : clean F ∧ clean (mP a b).2 := (Gt _ _).mp h
theorem cS_clean {F a b : Int} (h : clean (cS F a b).2) : clean F ∧ clean (aP a (flip b)).2 := (Gt _ _).mp h
theorem cD_clean {F a b : Int} (h : clean (cD F a b).2) : clean F ∧ clean (dP a b).2 := (Gt _ _).mp h
theorem divRd' {a b r f : Int} (fa : fin a) (fb : fin b) (h0 : mag b ≠ 0) (h : DivR a b r f) : Rd (val a / val b) (neg a != neg b) r f := by
  unfold DivR at h
  have n1 := Ak fa
  have n2 := Ak fb
  have hz : uw a b = false := by unfold uw; simp [n1, n2, h0]
  rw [if_neg (by rw [wo fa, wo fb]; decide), if_neg (by rw [hz]; decide), if_neg n1, if_neg n2, if_neg h0] at h
  exact h
theorem mv_err {a b : Int} (ha : U a) (hb : U b) (fa : fin a) (fb : fin b) (c : clean (mP a b).2) : fin (mv a b) ∧ jh (val (mv a b) - val a * val b) ≤ ulp * jh (val a * val b) := by
  obtain ⟨c3, c5⟩ := Gx c
  have := (mv_Rd ha hb fa fb).err c3 c5
  exact ⟨this.1, this.2.1⟩
theorem sub_err {a b : Int} (ha : U a) (hb : U b) (fa : fin a) (fb : fin b) (c : clean (aP a (flip b)).2) : fin (av a (flip b)) ∧ jh (val (av a (flip b)) - (val a - val b)) ≤ ulp * jh (val (av a (flip b))) := by
  obtain ⟨c3, c5⟩ := Gx c
  have R := av_Rd ha (U_flip hb) fa (by unfold fin; rw [mag_flip hb]; exact fb)
  rw [val_flip hb, ← Rat.sub_eq_add_neg] at R
  have := R.err c3 c5
  exact ⟨this.1, this.2.2⟩
theorem quo_err {a b : Int} (ha : U a) (hb : U b) (fa : fin a) (fb : fin b) (h0 : mag b ≠ 0) (c : clean (dP a b).2) : fin (dP a b).1 ∧ jh (val b * val (dP a b).1 - val a) ≤ ulp * jh (val b * val (dP a b).1) := by
  obtain ⟨c3, c5⟩ := Gx c
  have R := (divRd' fa fb h0 (dP_R ha hb)).err c3 c5
  refine ⟨R.1, ?_⟩
  have hv : val b ≠ 0 := fun e => h0 (qg.mp e)
  have e : val b * val (dP a b).1 - val a = val b * (val (dP a b).1 - val a / val b) := by
    have hw : val b * (val a / val b) = val a := by rw [Rat.mul_comm, Rat.div_mul_cancel hv]
    grind
  rw [e, G5, G5]
  have := Rat.mul_le_mul_of_nonneg_left R.2.2 (yo (val b))
  grind
theorem Ee {A : Nat → Nat → Int} {i : Nat} : ∀ m lo (s : List Int × Int), clean (Aw A i lo m s).2 → clean s.2
  | 0, lo, s, h => h
  | m + 1, lo, s, h => (cM_clean (cS_clean (Ee m (lo + 1) _ h)).1).1
theorem Gs {A : Nat → Nat → Int} {one : Bool} {i : Nat} {s : List Int × Int} (h : clean (tDiv A one i s).2) : clean s.2 := by
  unfold tDiv at h
  split at h
  · exact h
  · exact (cD_clean h).1
theorem Gl {n : Nat} {A : Nat → Nat → Int} {up one : Bool} : ∀ m s (x : List Int × Int), clean (tRun n A up one s m x).2 → clean x.2
  | 0, s, x, h => h
  | m + 1, s, x, h => Ee _ _ _ (Gs (Gl m (s + 1) _ h))
section
variable {n : Nat} {A : Nat → Nat → Int} (hA : ∀ i k, U (A i k)) (fA : ∀ i k, i < n → k < n → fin (A i k))
include hA fA
theorem row_facts {i : Nat} (hi : i < n) : ∀ m lo (l : List Int) (F : Int), Words n l → fin (rd l (i : Int)) → (∀ k, lo ≤ k → k < lo + m → (k < n ∧ k ≠ i) ∧ fin (rd l (k : Int))) → clean (Aw A i lo m (l, F)).2 →
    Words n (Aw A i lo m (l, F)).1 ∧ (∀ q, q < n → q ≠ i → rd (Aw A i lo m (l, F)).1 (q : Int) = rd l (q : Int)) ∧ fin (rd (Aw A i lo m (l, F)).1 (i : Int)) ∧
    ∃ s ph : Nat → Rat, s lo = val (rd l (i : Int)) ∧ s (lo + m) = val (rd (Aw A i lo m (l, F)).1 (i : Int)) ∧
      ∀ j : Nat, lo ≤ j → j < lo + m → jh (ph j - val (A i j) * val (rd l (j : Int))) ≤ ulp * jh (val (A i j) * val (rd l (j : Int))) ∧ jh (s (j + 1) - (s j - ph j)) ≤ ulp * jh (s (j + 1)) := by
  intro m
  induction m with
  | zero =>
    intro lo l F wl fl _ _
    exact ⟨wl, fun q _ _ => rfl, fl, fun _ => val (rd l (i : Int)), fun _ => 0, rfl, rfl, fun j a b => by omega⟩
  | succ m ih =>
    intro lo l F wl fl hk hc
    obtain ⟨⟨k1, k2⟩, fk⟩ := hk lo (by omega) (by omega)
    have hl := wl.1
    have c1 := Ee m (lo + 1) (Ex A i lo (l, F)) hc
    obtain ⟨c2, c3⟩ := cS_clean c1
    obtain ⟨c4, c5⟩ := cM_clean c2
    have ul := rdU hA wl hi
    have uk := rdU hA wl k1
    obtain ⟨g1, g2⟩ := mv_err (hA i lo) uk (fA i lo hi k1) fk c5
    obtain ⟨g3, g4⟩ := sub_err ul (mv_U (hA i lo) uk) fl g1 c3
    have e1 : rd (Ex A i lo (l, F)).1 (i : Int) = av (rd l (i : Int)) (flip (mv (A i lo) (rd l (lo : Int)))) := by
      unfold Ex
      dsimp only
      rw [rd_set (by omega), if_pos rfl]
      rfl
    have e2 : ∀ q, q ≠ i → rd (Ex A i lo (l, F)).1 (q : Int) = rd l (q : Int) := by
      intro q hq
      unfold Ex
      dsimp only
      rw [rd_set (by omega), if_neg (by omega)]
    obtain ⟨r1, r2, r3, s, ph, r4, r5, r6⟩ := ih (lo + 1) (Ex A i lo (l, F)).1 (Ex A i lo (l, F)).2 (tStep_W hA hi k1 wl) (by rw [e1]; exact g3) (fun k a b => by
      have h := hk k (by omega) (by omega)
      rw [e2 k h.1.2]
      exact h) hc
    refine ⟨r1, fun q a b => (r2 q a b).trans (e2 q b), r3, fun j => if j = lo then val (rd l (i : Int)) else s j, fun j => if j = lo then val (mv (A i lo) (rd l (lo : Int))) else ph j, if_pos rfl, ?_, ?_⟩
    · show (if lo + (m + 1) = lo then _ else s (lo + (m + 1))) = _
      rw [if_neg (by omega), show lo + (m + 1) = lo + 1 + m from by omega]
      exact r5
    · intro j a b
      by_cases c : j = lo
      · subst c
        show jh ((if j = j then _ else _) - _) ≤ _ ∧ jh ((if j + 1 = j then _ else s (j + 1)) - ((if j = j then _ else _) - (if j = j then _ else _))) ≤ ulp * jh (if j + 1 = j then _ else s (j + 1))
        rw [if_pos rfl, if_neg (by omega), if_pos rfl, r4, e1]
        exact ⟨g2, g4⟩
      · have h := r6 j (by omega) (by omega)
        rw [e2 j (hk j a b).1.2] at h
        show jh ((if j = lo then _ else ph j) - _) ≤ _ ∧ jh ((if j + 1 = lo then _ else s (j + 1)) - ((if j = lo then _ else s j) - (if j = lo then _ else ph j))) ≤ ulp * jh (if j + 1 = lo then _ else s (j + 1))
        rw [if_neg c, if_neg (by omega), if_neg c]
        exact h
end
end Gim

end

section
namespace Gim
open Go Go.RowKit Go.Proofs.YtnjobojkoaknpaaDoorW.PrintWords Go.Proofs.YtnjobojkoaknpaaDoorW.PrintLast Go.Proofs.YtnjobojkoaknpaaDoorW.PrintMore Go.Proofs.YtnjobojkoaknpaaDoor.F
set_option linter.unusedVariables false
set_option linter.unusedSectionVars false

def Co (A : Nat → Nat → Int) (one : Bool) (l : List Int) (i : Nat) : Rat := if one = true then val (rd l (i : Int)) else val (A i i) * val (rd l (i : Int))
def Fb (n : Nat) (A : Nat → Nat → Int) (up one : Bool) (b l : List Int) (i : Nat) : Prop :=
  fin (rd l (i : Int)) ∧ jh (val (rd b (i : Int)) - (Co A one l i + rs (fun k => val (A i k) * val (rd l (k : Int))) (um up i) (nz n up i))) ≤
    (1 + (nz n up i : Rat) * (9 / 4)) * (ulp * (jh (Co A one l i) + rs (fun k => jh (val (A i k) * val (rd l (k : Int)))) (um up i) (nz n up i)))
theorem Dg {g g' : Nat → Rat} : ∀ m lo, (∀ k, lo ≤ k → k < lo + m → g k = g' k) → rs g lo m = rs g' lo m
  | 0, _, _ => rfl
  | m + 1, lo, h => by
    simp only [rs]
    rw [h lo (by omega) (by omega), Dg m (lo + 1) (fun k a b => h k (by omega) (by omega))]
theorem Fb.congr {n : Nat} {A : Nat → Nat → Int} {up one : Bool} {b l l' : List Int} {i : Nat} (h : Fb n A up one b l i) (e : rd l' (i : Int) = rd l (i : Int))
    (es : ∀ k, um up i ≤ k → k < um up i + nz n up i → rd l' (k : Int) = rd l (k : Int)) : Fb n A up one b l' i := by
  have t : Co A one l' i = Co A one l i := by unfold Co; rw [e]
  have r1 : rs (fun k => val (A i k) * val (rd l' (k : Int))) (um up i) (nz n up i) = rs (fun k => val (A i k) * val (rd l (k : Int))) (um up i) (nz n up i) := Dg _ _ fun k a b => by rw [es k a b]
  have r2 : rs (fun k => jh (val (A i k) * val (rd l' (k : Int)))) (um up i) (nz n up i) = rs (fun k => jh (val (A i k) * val (rd l (k : Int)))) (um up i) (nz n up i) := Dg _ _ fun k a b => by rw [es k a b]
  unfold Fb at h ⊢
  rw [t, r1, r2, e]
  exact h
section
variable {n : Nat} (hn : n ≤ 12) {A : Nat → Nat → Int} (hA : ∀ i k, U (A i k)) (fA : ∀ i k, i < n → k < n → fin (A i k)) {one : Bool} (h0 : one = false → ∀ i, i < n → mag (A i i) ≠ 0) {b : List Int} (fb : ∀ i : Nat, i < n → fin (rd b (i : Int)))
include hn hA fA h0 fb
theorem one_row {up : Bool} {i : Nat} (hi : i < n) {l : List Int} {F : Int} (wl : Words n l) (eb : rd l (i : Int) = rd b (i : Int)) (hs : ∀ k, um up i ≤ k → k < um up i + nz n up i → (k < n ∧ k ≠ i) ∧ fin (rd l (k : Int)))
    (hc : clean (tDiv A one i (Aw A i (um up i) (nz n up i) (l, F))).2) :
    (∀ q, q < n → q ≠ i → rd (tDiv A one i (Aw A i (um up i) (nz n up i) (l, F))).1 (q : Int) = rd l (q : Int)) ∧ Fb n A up one b (tDiv A one i (Aw A i (um up i) (nz n up i) (l, F))).1 i := by
  obtain ⟨w1, o1, f1, s, ph, s1, s2, s3⟩ := row_facts hA fA hi (nz n up i) (um up i) l F wl (by rw [eb]; exact fb i hi) hs (Gs hc)
  have len1 := w1.1
  have few : nz n up i ≤ 12 := by unfold nz; split <;> omega
  -- what the row ends in
  have last : ∃ x : Int, rd (tDiv A one i (Aw A i (um up i) (nz n up i) (l, F))).1 (i : Int) = x ∧ fin x ∧ (∀ q, q ≠ i → rd (tDiv A one i (Aw A i (um up i) (nz n up i) (l, F))).1 (q : Int) = rd (Aw A i (um up i) (nz n up i) (l, F)).1 (q : Int)) ∧
      jh ((if one = true then val x else val (A i i) * val x) - s (um up i + nz n up i)) ≤ ulp * jh (if one = true then val x else val (A i i) * val x) := by
    cases one
    · have q := quo_err (rdU hA w1 hi) (hA i i) f1 (fA i i hi hi) (h0 rfl i hi) (cD_clean hc).2
      refine ⟨(dP (rd (Aw A i (um up i) (nz n up i) (l, F)).1 (i : Int)) (A i i)).1, ?_, q.1, ?_, ?_⟩
      · unfold tDiv
        rw [if_neg (by simp)]
        dsimp only
        rw [rd_set (by omega), if_pos rfl]
        rfl
      · intro q hq
        unfold tDiv
        rw [if_neg (by simp)]
        dsimp only
        rw [rd_set (by omega), if_neg (by omega)]
      · rw [if_neg (by simp), s2]
        exact q.2
    · refine ⟨rd (Aw A i (um up i) (nz n up i) (l, F)).1 (i : Int), by unfold tDiv; rw [if_pos rfl], f1, fun q _ => by unfold tDiv; rw [if_pos rfl], ?_⟩
      rw [if_pos rfl, s2]
      have z : ∀ y : Rat, jh (y - y) = 0 := by intro y; rw [show y - y = 0 by grind, Dy]
      rw [z]
      exact Rat.mul_nonneg (Rat.le_of_lt Ep) (yo _)
  obtain ⟨x, e1, fx, e2, hx⟩ := last
  have oth : ∀ q, q < n → q ≠ i → rd (tDiv A one i (Aw A i (um up i) (nz n up i) (l, F))).1 (q : Int) = rd l (q : Int) := fun q a c => (e2 q c).trans (o1 q a c)
  refine ⟨oth, ?_, ?_⟩
  · rw [e1]; exact fx
  · have t : Co A one (tDiv A one i (Aw A i (um up i) (nz n up i) (l, F))).1 i = (if one = true then val x else val (A i i) * val x) := by unfold Co; rw [e1]
    have r1 : rs (fun k => val (A i k) * val (rd (tDiv A one i (Aw A i (um up i) (nz n up i) (l, F))).1 (k : Int))) (um up i) (nz n up i) = rs (fun k => val (A i k) * val (rd l (k : Int))) (um up i) (nz n up i) :=
      Dg _ _ fun k a c => by rw [oth k (hs k a c).1.1 (hs k a c).1.2]
    have r2 : rs (fun k => jh (val (A i k) * val (rd (tDiv A one i (Aw A i (um up i) (nz n up i) (l, F))).1 (k : Int)))) (um up i) (nz n up i) = rs (fun k => jh (val (A i k) * val (rd l (k : Int)))) (um up i) (nz n up i) :=
      Dg _ _ fun k a c => by rw [oth k (hs k a c).1.1 (hs k a c).1.2]
    rw [t, r1, r2, ← eb, ← s1]
    exact row_err (p := fun k => val (A i k) * val (rd l (k : Int))) (ph := ph) (s := s) (nz n up i) (um up i) few s3 hx (Rat.le_refl)
theorem tri_run {up : Bool} : ∀ m s (l : List Int) (F : Int), s + m = n → Words n l → (∀ i, i < n → (∀ j, j < s → rowOf n up j ≠ i) → rd l (i : Int) = rd b (i : Int)) →
    (∀ i, i < n → (∃ j, j < s ∧ rowOf n up j = i) → Fb n A up one b l i) → clean (tRun n A up one s m (l, F)).2 → ∀ i, i < n → Fb n A up one b (tRun n A up one s m (l, F)).1 i := by
  intro m
  induction m with
  | zero =>
    intro s l F hs wl hu hd _ i hi
    refine hd i hi ⟨if up = true then n - 1 - i else i, ?_, ?_⟩
    · split <;> omega
    · unfold rowOf; split <;> simp_all <;> omega
  | succ m ih =>
    intro s l F hs wl hu hd hc
    have hi := Gq (up := up) (show s < n by omega)
    have new : ∀ j, j < s → rowOf n up j ≠ rowOf n up s := by
      intro j hj
      unfold rowOf
      split <;> omega
    have span : ∀ i, i < n → (∃ j, j ≤ s ∧ rowOf n up j = i) → ∀ k, um up i ≤ k → k < um up i + nz n up i → (k < n ∧ k ≠ i) ∧ ∃ j, j < s ∧ rowOf n up j = k := by
      intro i hi hj k a c
      obtain ⟨j, j1, j2⟩ := hj
      unfold rowOf at j2
      unfold um at a c
      unfold nz at c
      refine ⟨?_, if up = true then n - 1 - k else k, ?_, ?_⟩
      · split at c <;> simp_all <;> omega
      · split at c <;> simp_all <;> omega
      · unfold rowOf
        split at c <;> simp_all <;> omega
    have c1 : clean (tOne n A up one s (l, F)).2 := Gl m (s + 1) _ hc
    obtain ⟨o1, ok⟩ := one_row hn hA fA h0 fb (up := up) hi (l := l) (F := F) wl (hu _ hi new) (fun k a c => by
      obtain ⟨x1, x2⟩ := span _ hi ⟨s, Nat.le_refl _, rfl⟩ k a c
      exact ⟨x1, (hd k x1.1 x2).1⟩) c1
    have W2 : Words n (tOne n A up one s (l, F)).1 := tOne_W hA (by omega) wl
    refine ih (s + 1) (tOne n A up one s (l, F)).1 (tOne n A up one s (l, F)).2 (by omega) W2 ?_ ?_ hc
    · intro j hj hne
      have e := o1 j hj (fun e => hne s (by omega) e.symm)
      exact e.trans (hu j hj (fun k hk => hne k (by omega)))
    · intro j hj hex
      by_cases e : j = rowOf n up s
      · subst e; exact ok
      · have dj : ∃ k, k < s ∧ rowOf n up k = j := by
          obtain ⟨k, k1, k2⟩ := hex
          refine ⟨k, ?_, k2⟩
          rcases Nat.lt_or_ge k s with g | g
          · exact g
          · obtain rfl : k = s := by omega
            exact absurd k2.symm e
        refine (hd j hj dj).congr (o1 j hj e) fun k a c => ?_
        obtain ⟨k1, k2⟩ := dj
        obtain ⟨x1, y, y1, y2⟩ := span j hj ⟨k1, by omega, k2.2⟩ k a c
        exact o1 k x1.1 (fun e2 => new y y1 (y2.trans e2))
theorem tri_near {up : Bool} (wb : Words n b) {F : Int} (hc : clean (tRun n A up one 0 n (b, F)).2) : ∀ i, i < n → Fb n A up one b (tRun n A up one 0 n (b, F)).1 i :=
  tri_run hn hA fA h0 fb n 0 b F (by omega) wb (fun i _ _ => rfl) (fun i _ h => by obtain ⟨j, h1, _⟩ := h; omega) hc
end
end Gim

end

section
namespace Gim
open Go Go.RowKit Go.Proofs.YtnjobojkoaknpaaDoorW.PrintWords Go.Proofs.YtnjobojkoaknpaaDoorW.PrintLast Go.Proofs.YtnjobojkoaknpaaDoorW.PrintMore Go.Proofs.YtnjobojkoaknpaaDoor.F
set_option linter.unusedVariables false

theorem made12_l0 {n : Nat} (hn : n ≤ 100) {all : List Int} (ha : ∀ x ∈ all, U x) (hl : all.length ≤ 100) {from_ : Int} (f0 : 0 ≤ from_) (f1 : from_ ≤ 10) :
    ∀ t x : Nat, n * n - x = t → x ≤ n * n → ∀ d, Words (n * n) d → ∃ d', Words (n * n) d' ∧ Ev (fun K => cz.l0 K all from_ ((n * n : Nat) : Int) x n n n d) ((n : Int), (n : Int), (n : Int), d') := by
  have hRC : n * n ≤ 10000 := Nat.mul_le_mul hn hn
  intro t
  induction t with
  | zero =>
    intro x h1 h2 d hd
    obtain rfl : x = n * n := by omega
    refine ⟨d, hd, Ev.succ ?_⟩
    simp only [cz.l0]
    exact Ev.neg (by omega) (Ev.now _)
  | succ t ih =>
    intro x h1 h2 d hd
    have hlen := hd.1
    have ew : wrap64 ((x : Int) + 1) = ((x + 1 : Nat) : Int) := by rw [w64 (by omega) (by omega)]; rfl
    have a1 : (x : Int) < ((n * n : Nat) : Int) := by omega
    have a2 : (0 : Int) ≤ (x : Int) := by omega
    have a3 : (x : Int) < (d.length : Int) := by omega
    by_cases c : (all.length : Int) > 0
    · have a4 : ¬ (all.length : Int) = 0 := by omega
      have i0 : 0 ≤ Int.tmod (wrap64 ((x : Int) + from_)) (all.length : Int) := by
        rw [w64 (by omega) (by omega)]; exact Int.tmod_nonneg _ (by omega)
      have i1 : Int.tmod (wrap64 ((x : Int) + from_)) (all.length : Int) < (all.length : Int) := by
        rw [w64 (by omega) (by omega)]; exact Int.tmod_lt_of_pos _ c
      have hu := ha _ (rd_mem i0 i1)
      obtain ⟨d', hd', ev⟩ := ih (x + 1) (by omega) (by omega) (d.set (x : Int).toNat (rd all (Int.tmod (wrap64 ((x : Int) + from_)) (all.length : Int)))) (hd.set _ hu)
      refine ⟨d', hd', Ev.succ ?_⟩
      simp only [cz.l0]
      rw [ew]
      exact Ev.pos a1 (Ev.pos c (Ev.neg a4 (Ev.pos i0 (Ev.pos i1 (Ev.pos a2 (Ev.pos a3 ev))))))
    · obtain ⟨d', hd', ev⟩ := ih (x + 1) (by omega) (by omega) d hd
      refine ⟨d', hd', Ev.succ ?_⟩
      simp only [cz.l0]
      rw [ew]
      exact Ev.pos a1 (Ev.neg c ev)
theorem made12_ev {n : Nat} (hn : n ≤ 100) {all : List Int} (ha : ∀ x ∈ all, U x) (hl : all.length ≤ 100) {from_ : Int} (f0 : 0 ≤ from_) (f1 : from_ ≤ 10) :
    ∃ d, Words (n * n) d ∧ Ev (fun K => cz.f K n all from_) ((n : Int), (n : Int), (n : Int), d) := by
  obtain ⟨d, hd, ev⟩ := made12_l0 hn ha hl f0 f1 (n * n) 0 (by omega) (by omega) _ (Words.zeros _)
  refine ⟨d, hd, ?_⟩
  unfold cz.f
  refine Ev.call (new_eq (by omega) (by omega)) ?_
  dsimp only
  rw [List.length_replicate]
  exact ev
theorem Words.add {n : Nat} {d : List Int} (h : Words n d) {v : Int} (hv : U v) : Words (n + 1) (d ++ [v]) := by
  refine ⟨by rw [List.length_append, h.1]; rfl, fun x hx => ?_⟩
  rcases List.mem_append.mp hx with hx | hx
  · exact h.2 x hx
  · rw [List.mem_singleton.mp hx]; exact hv
theorem list12_l0 {n : Nat} (hn : n ≤ 100) {all : List Int} (ha : ∀ x ∈ all, U x) (hl : all.length ≤ 100) {from_ : Int} (f0 : 0 ≤ from_) (f1 : from_ ≤ 10) :
    ∀ t x : Nat, x + t = n → ∀ d, Words x d → ∃ d', Words n d' ∧ Ev (fun K => d9.l0 K n all from_ d x) d' := by
  intro t
  induction t with
  | zero =>
    intro x h1 d hd
    obtain rfl : x = n := by omega
    refine ⟨d, hd, Ev.succ ?_⟩
    simp only [d9.l0]
    exact Ev.neg (by omega) (Ev.now _)
  | succ t ih =>
    intro x h1 d hd
    have hlen := hd.1
    have ew : wrap64 ((x : Int) + 1) = ((x + 1 : Nat) : Int) := by rw [w64 (by omega) (by omega)]; rfl
    have a1 : (x : Int) < (n : Int) := by omega
    have a3 : d.length < 17592186044416 := by omega
    by_cases c : (all.length : Int) > 0
    · have a4 : ¬ (all.length : Int) = 0 := by omega
      have i0 : 0 ≤ Int.tmod (wrap64 ((x : Int) + from_)) (all.length : Int) := by
        rw [w64 (by omega) (by omega)]; exact Int.tmod_nonneg _ (by omega)
      have i1 : Int.tmod (wrap64 ((x : Int) + from_)) (all.length : Int) < (all.length : Int) := by
        rw [w64 (by omega) (by omega)]; exact Int.tmod_lt_of_pos _ c
      have hu := ha _ (rd_mem i0 i1)
      obtain ⟨d', hd', ev⟩ := ih (x + 1) (by omega) (d ++ [rd all (Int.tmod (wrap64 ((x : Int) + from_)) (all.length : Int))]) (hd.add hu)
      refine ⟨d', hd', Ev.succ ?_⟩
      simp only [d9.l0]
      rw [ew]
      exact Ev.pos a1 (Ev.pos c (Ev.neg a4 (Ev.pos i0 (Ev.pos i1 (Ev.pos a3 ev)))))
    · obtain ⟨d', hd', ev⟩ := ih (x + 1) (by omega) (d ++ [4607182418800017408]) (hd.add ⟨by decide, by decide⟩)
      refine ⟨d', hd', Ev.succ ?_⟩
      simp only [d9.l0]
      rw [ew]
      exact Ev.pos a1 (Ev.neg c (Ev.pos a3 ev))
theorem list12_ev {n : Nat} (hn : n ≤ 100) {all : List Int} (ha : ∀ x ∈ all, U x) (hl : all.length ≤ 100) {from_ : Int} (f0 : 0 ≤ from_) (f1 : from_ ≤ 10) :
    ∃ d, Words n d ∧ Ev (fun K => d9.f K n all from_) d := by
  obtain ⟨d, hd, ev⟩ := list12_l0 hn ha hl f0 f1 n 0 (by omega) [] ⟨rfl, fun x hx => by simp at hx⟩
  exact ⟨d, hd, ev⟩
theorem in12_eq (i k : Nat) (up : Bool) : ug.f i k up = some (decide (if up = true then i < k else k < i)) := by
  unfold ug.f
  cases up
  · simp
  · by_cases c : i < k
    · have : (k : Int) > (i : Int) := by omega
      simp [c, this]
    · have : ¬ (k : Int) > (i : Int) := by omega
      simp [c]
end Gim

end

section
namespace Gim
open Go Go.RowKit Go.Proofs.YtnjobojkoaknpaaDoorW.PrintWords Go.Proofs.YtnjobojkoaknpaaDoorW.PrintLast Go.Proofs.YtnjobojkoaknpaaDoorW.PrintMore Go.Proofs.YtnjobojkoaknpaaDoor.F
set_option linter.unusedVariables false
set_option linter.unusedSectionVars false

section
variable {R C : Nat} {s : Int} {d : List Int} (hR : R ≤ 100) (hC : C ≤ 100) (hs : s ≤ 1099511627776) (hu : ∀ x ∈ d, U x)
include hR hC hs hu
theorem finite_l1 {i : Nat} (hi : i < R) {nb : Bool} (next : Ev (fun K => bv.l0 K R ((i + 1 : Nat) : Int) R C s d) nb) :
    ∀ t k : Nat, C - k = t → k ≤ C → ∃ b, Ev (fun K => bv.l1 K i R i C k R C s d) b ∧ (b = true ↔ (∀ j : Nat, k ≤ j → j < C → fin (at4 R C s d i j)) ∧ nb = true) := by
  intro t
  induction t with
  | zero =>
    intro k h1 h2
    refine ⟨nb, Ev.succ ?_, ?_⟩
    · simp only [bv.l1]
      rw [w64 (x := (i : Int) + 1) (by omega) (by omega)]
      exact Ev.neg (by omega) next
    · exact ⟨fun h => ⟨fun j h3 h4 => by omega, h⟩, fun h => h.2⟩
  | succ t ih =>
    intro k h1 h2
    have u := at_U (r := R) (c := C) (s := s) hu i k
    by_cases fi : fin (at4 R C s d i k)
    · obtain ⟨b, ev, hb⟩ := ih (k + 1) (by omega) (by omega)
      refine ⟨b, Ev.succ ?_, ?_⟩
      · simp only [bv.l1]
        rw [w64 (x := (k : Int) + 1) (by omega) (by omega)]
        exact Ev.pos (by omega) (Ev.call (at_eq ⟨by omega, by omega, by omega⟩ _ _ _) (Ev.call (Ac u) (Ev.pos (decide_eq_true fi) ev)))
      · rw [hb]
        constructor
        · rintro ⟨h3, h4⟩
          refine ⟨fun j h5 h6 => ?_, h4⟩
          by_cases e : j = k
          · subst e; exact fi
          · exact h3 j (by omega) h6
        · rintro ⟨h3, h4⟩
          exact ⟨fun j h5 h6 => h3 j (by omega) h6, h4⟩
    · refine ⟨false, Ev.succ ?_, ?_⟩
      · simp only [bv.l1]
        exact Ev.pos (by omega) (Ev.call (at_eq ⟨by omega, by omega, by omega⟩ _ _ _) (Ev.call (Ac u) (Ev.neg (by rw [decide_eq_false fi]; decide) (Ev.now _))))
      · constructor
        · intro h; cases h
        · intro h; exact absurd (h.1 k (Nat.le_refl _) (by omega)) fi
theorem finite_l0 : ∀ t i : Nat, R - i = t → i ≤ R → ∃ b, Ev (fun K => bv.l0 K R i R C s d) b ∧ (b = true ↔ ∀ j k : Nat, i ≤ j → j < R → k < C → fin (at4 R C s d j k)) := by
  intro t
  induction t with
  | zero =>
    intro i h1 h2
    refine ⟨true, Ev.succ ?_, ⟨fun _ j k h3 h4 => by omega, fun _ => rfl⟩⟩
    simp only [bv.l0]
    exact Ev.neg (by omega) (Ev.now _)
  | succ t ih =>
    intro i h1 h2
    obtain ⟨nb, ev, hn⟩ := ih (i + 1) (by omega) (by omega)
    obtain ⟨b, ev2, hb⟩ := finite_l1 hR hC hs hu (i := i) (by omega) ev C 0 (by omega) (by omega)
    refine ⟨b, Ev.succ ?_, ?_⟩
    · simp only [bv.l0]
      exact Ev.pos (by omega) ev2
    · rw [hb, hn]
      constructor
      · rintro ⟨h3, h4⟩ j k h5 h6 h7
        by_cases e : j = i
        · subst e; exact h3 k (by omega) h7
        · exact h4 j k (by omega) h6 h7
      · intro h
        exact ⟨fun j h5 h6 => h i j (Nat.le_refl _) (by omega) h6, fun j k h5 h6 h7 => h j k (by omega) h6 h7⟩
theorem finite_ev : ∃ b, Ev (fun K => bv.f K R C s d) b ∧ (b = true ↔ ∀ j k : Nat, j < R → k < C → fin (at4 R C s d j k)) := by
  unfold bv.f
  obtain ⟨b, ev, hb⟩ := finite_l0 hR hC hs hu R 0 (by omega) (by omega)
  exact ⟨b, ev, hb.trans ⟨fun h j k h1 h2 => h j k (by omega) h1 h2, fun h j k _ h1 h2 => h j k h1 h2⟩⟩
end
end Gim

end

section
namespace Gim
set_option linter.unusedVariables false

def nv : List Int → Int
  | [] => 0
  | d :: l => d + 4294967296 * nv l
def Dig (l : List Int) : Prop := ∀ x ∈ l, 0 ≤ x ∧ x < 4294967296
def bp (n : Nat) : Int := 4294967296 ^ n
theorem bp_zero : bp 0 = 1 := rfl
theorem Bj (n : Nat) : bp (n + 1) = 4294967296 * bp n := by unfold bp; rw [Int.pow_succ, Int.mul_comm]
theorem Cr (n : Nat) : 0 < bp n := by unfold bp; exact Int.pow_pos (by decide)
theorem bp_add (m n : Nat) : bp (m + n) = bp m * bp n := by unfold bp; exact Int.pow_add _ _ _
theorem bp_mono {m n : Nat} (h : m ≤ n) : bp m ≤ bp n := by
  obtain ⟨k, rfl⟩ : ∃ k, n = m + k := ⟨n - m, by omega⟩
  rw [bp_add]
  have h1 := Cr m
  have h2 := Cr k
  have := Int.mul_le_mul_of_nonneg_left (show 1 ≤ bp k by omega) (Int.le_of_lt h1)
  omega
theorem bp_pw (n : Nat) : ((bp n : Int) : Rat) = pw (32 * n) := by
  have : bp n = 2 ^ (32 * n) := by unfold bp; rw [Int.pow_mul]; rfl
  have e : ((32 * (n : Int)) : Int) = ((32 * n : Nat) : Int) := by omega
  rw [this, e, pw_nat]
theorem Al (d : Int) (l : List Int) : nv (d :: l) = d + 4294967296 * nv l := rfl
theorem nv_append (l l' : List Int) : nv (l ++ l') = nv l + bp l.length * nv l' := by
  induction l with
  | nil => simp [nv, bp_zero]
  | cons d l ih =>
    rw [List.cons_append, Al, Al, ih, List.length_cons, Bj]
    grind
theorem Bn (l : List Int) (d : Int) : nv (l ++ [d]) = nv l + bp l.length * d := by rw [nv_append]; simp [nv]
theorem nv_zeros (n : Nat) : nv (List.replicate n 0) = 0 := by
  induction n with
  | zero => rfl
  | succ n ih => rw [List.replicate_succ, Al, ih]; rfl
theorem Dig.nil : Dig [] := by intro x hx; cases hx
theorem Dig.cons {d : Int} {l : List Int} (h : Dig (d :: l)) : (0 ≤ d ∧ d < 4294967296) ∧ Dig l := ⟨h d List.mem_cons_self, fun x hx => h x (List.mem_cons_of_mem _ hx)⟩
theorem Dig.mk {d : Int} {l : List Int} (h0 : 0 ≤ d) (h1 : d < 4294967296) (h : Dig l) : Dig (d :: l) := by
  intro x hx
  rcases List.mem_cons.mp hx with rfl | hx
  · exact ⟨h0, h1⟩
  · exact h x hx
theorem Dig.append {l l' : List Int} (h : Dig l) (h' : Dig l') : Dig (l ++ l') := by
  intro x hx
  rcases List.mem_append.mp hx with hx | hx
  · exact h x hx
  · exact h' x hx
theorem Dig.one {d : Int} (h0 : 0 ≤ d) (h1 : d < 4294967296) : Dig [d] := Dig.mk h0 h1 Dig.nil
theorem Dig.take {l : List Int} (h : Dig l) (n : Nat) : Dig (l.take n) := fun x hx => h x (List.mem_of_mem_take hx)
theorem Dig.drop {l : List Int} (h : Dig l) (n : Nat) : Dig (l.drop n) := fun x hx => h x (List.mem_of_mem_drop hx)
theorem Dig.zeros (n : Nat) : Dig (List.replicate n 0) := by
  intro x hx
  rw [(List.mem_replicate.mp hx).2]
  decide
theorem Dig.set {l : List Int} (h : Dig l) (i : Nat) {v : Int} (h0 : 0 ≤ v) (h1 : v < 4294967296) : Dig (l.set i v) := by
  intro x hx
  rcases List.mem_or_eq_of_mem_set hx with hx | hx
  · exact h x hx
  · rw [hx]; exact ⟨h0, h1⟩
theorem Dig.get {l : List Int} (h : Dig l) {i : Nat} (hi : i < l.length) : 0 ≤ l[i] ∧ l[i] < 4294967296 := h _ (List.getElem_mem hi)
theorem yu {l : List Int} (h : Dig l) : 0 ≤ nv l ∧ nv l < bp l.length := by
  induction l with
  | nil => exact ⟨Int.le_refl _, by rw [List.length_nil, bp_zero]; decide⟩
  | cons d l ih =>
    obtain ⟨⟨h0, h1⟩, h2⟩ := h.cons
    obtain ⟨a, b⟩ := ih h2
    rw [Al, List.length_cons, Bj]
    omega
theorem Cq (l : List Int) (n : Nat) (h : n ≤ l.length) : nv l = nv (l.take n) + bp n * nv (l.drop n) := by
  have := nv_append (l.take n) (l.drop n)
  rwa [List.take_append_drop, List.length_take, Nat.min_eq_left h] at this
theorem nv_set {l : List Int} {i : Nat} (h : i < l.length) (v : Int) : nv (l.set i v) = nv l + bp i * (v - l[i]) := by
  induction l generalizing i with
  | nil => simp at h
  | cons d l ih =>
    cases i with
    | zero => simp [nv, bp_zero]; omega
    | succ i =>
      have hi : i < l.length := by simpa using h
      rw [List.set_cons_succ, Al, Al, ih hi, Bj]
      simp only [List.getElem_cons_succ]
      grind
theorem oo {l : List Int} {i : Nat} (h : i < l.length) : nv (l.take (i + 1)) = nv (l.take i) + bp i * l[i] := by
  rw [List.take_succ_eq_append_getElem h, Bn, List.length_take, Nat.min_eq_left (by omega)]
theorem Gg {l : List Int} {i : Nat} (h : i < l.length) : nv (l.drop i) = l[i] + 4294967296 * nv (l.drop (i + 1)) := by
  rw [List.drop_eq_getElem_cons h, Al]
theorem nv_inj {l l' : List Int} (h : Dig l) (h' : Dig l') (hl : l.length = l'.length) (e : nv l = nv l') : l = l' := by
  induction l generalizing l' with
  | nil => cases l' with
    | nil => rfl
    | cons d l => simp at hl
  | cons d l ih =>
    cases l' with
    | nil => simp at hl
    | cons d' l' =>
      obtain ⟨⟨a, b⟩, c⟩ := h.cons
      obtain ⟨⟨a', b'⟩, c'⟩ := h'.cons
      rw [Al, Al] at e
      have e1 : d = d' := by omega
      subst e1
      rw [ih c c' (by simpa using hl) (by omega)]
def Top (l : List Int) : Prop := l ≠ [] → bp (l.length - 1) ≤ nv l
theorem Top.length_le {l : List Int} (h : Top l) {n : Nat} (hn : nv l < bp n) : l.length ≤ n := by
  by_cases he : l = []
  · subst he; simp
  · have h1 := h he
    refine Decidable.byContradiction fun hc => ?_
    have := bp_mono (show n ≤ l.length - 1 by omega)
    omega
theorem Top.inj {l l' : List Int} (h : Dig l) (h' : Dig l') (t : Top l) (t' : Top l') (e : nv l = nv l') : l = l' := by
  have b := yu h
  have b' := yu h'
  have h1 := t.length_le (n := l'.length) (by omega)
  have h2 := t'.length_le (n := l.length) (by omega)
  exact nv_inj h h' (by omega) e
theorem Top.of_last {l : List Int} (h : Dig l) (hl : 0 < l.length) (hz : l[l.length - 1]'(by omega) ≠ 0) : Top l := by
  intro _
  have h1 := oo (l := l) (i := l.length - 1) (by omega)
  rw [show l.length - 1 + 1 = l.length by omega, List.take_length] at h1
  have h2 := (yu (h.take (l.length - 1))).1
  have h3 := h.get (i := l.length - 1) (by omega)
  have h4 := Cr (l.length - 1)
  have : bp (l.length - 1) * 1 ≤ bp (l.length - 1) * l[l.length - 1] := Int.mul_le_mul_of_nonneg_left (by omega) (by omega)
  omega
theorem nv_pos {l : List Int} (t : Top l) (he : l ≠ []) : 0 < nv l := by
  have := t he
  have := Cr (l.length - 1)
  omega
theorem Cn {l : List Int} (hl : 0 < l.length) (hz : l[l.length - 1]'(by omega) = 0) : nv (l.take (l.length - 1)) = nv l := by
  have h1 := oo (l := l) (i := l.length - 1) (by omega)
  rw [show l.length - 1 + 1 = l.length by omega, List.take_length, hz] at h1
  omega
def dn (P Q : Int) : List Int → List Int
  | [] => []
  | a :: l => (a / P + (l.headD 0 % P) * Q) :: dn P Q l
theorem D6 (P Q : Int) (l : List Int) : (dn P Q l).length = l.length := by
  induction l with
  | nil => rfl
  | cons a l ih => simp [dn, ih]
theorem dn_nv {P Q : Int} (hP : 0 < P) (hPQ : P * Q = 4294967296) (l : List Int) : nv (dn P Q l) * P + l.headD 0 % P = nv l := by
  induction l with
  | nil => simp [dn, nv]
  | cons a l ih =>
    have h1 := Int.emod_add_mul_ediv a P
    simp only [dn, Al, List.headD_cons]
    rw [← ih]
    grind
theorem dn_get {P Q : Int} {l : List Int} {i : Nat} (h : i < l.length) : (dn P Q l)[i]'(by rw [D6]; exact h) = l[i] / P + (if h2 : i + 1 < l.length then l[i + 1] % P else 0) * Q := by
  induction l generalizing i with
  | nil => simp at h
  | cons a l ih =>
    cases i with
    | zero =>
      cases l with
      | nil => simp [dn]
      | cons b l => simp [dn]
    | succ i =>
      have hi : i < l.length := by simpa using h
      simp only [dn, List.getElem_cons_succ, ih hi]
      by_cases h2 : i + 1 < l.length
      · rw [dif_pos h2, dif_pos (by simpa using h2)]
      · rw [dif_neg h2, dif_neg (by simpa using h2)]
theorem dn_dig {P Q : Int} (hP : 0 < P) (hQ : 0 < Q) (hPQ : P * Q = 4294967296) {l : List Int} (h : Dig l) : Dig (dn P Q l) := by
  induction l with
  | nil => exact Dig.nil
  | cons a l ih =>
    obtain ⟨⟨h0, h1⟩, h2⟩ := h.cons
    have d0 := Int.ediv_nonneg h0 (Int.le_of_lt hP)
    have d1 : a / P < Q := Int.ediv_lt_of_lt_mul hP (by rw [Int.mul_comm]; omega)
    have r0 := Int.emod_nonneg (l.headD 0) (show P ≠ 0 by omega)
    have r1 := Int.emod_lt_of_pos (l.headD 0) hP
    have m0 := Int.mul_nonneg r0 (Int.le_of_lt hQ)
    have m1 : (l.headD 0 % P) * Q ≤ (P - 1) * Q := Int.mul_le_mul_of_nonneg_right (by omega) (Int.le_of_lt hQ)
    have m2 : (P - 1) * Q = 4294967296 - Q := by grind
    exact Dig.mk (by omega) (by omega) (ih h2)
def stp (L : List Int) (i : Nat) : List Int := L.take i ++ List.replicate (L.length - i) 0
theorem Cw {L : List Int} {i : Nat} (h : i ≤ L.length) : (stp L i).length = L.length := by simp [stp]; omega
theorem stp_zero (L : List Int) : stp L 0 = List.replicate L.length 0 := by simp [stp]
theorem stp_full (L : List Int) : stp L L.length = L := by simp [stp]
theorem stp_set {L : List Int} {i : Nat} (h : i < L.length) : (stp L i).set i L[i] = stp L (i + 1) := by
  apply List.ext_getElem
  · rw [List.length_set, Cw (by omega), Cw (by omega)]
  · intro x h1 h2
    have hx : x < L.length := by rw [Cw (by omega)] at h2; exact h2
    have get : ∀ j, (hj : j ≤ L.length) → ∀ hh : x < (stp L j).length, (stp L j)[x] = if x < j then L[x] else 0 := by
      intro j hj hh
      simp only [stp]
      by_cases c : x < j
      · rw [if_pos c, List.getElem_append_left (by simp; omega)]
        simp
      · rw [if_neg c, List.getElem_append_right (by simp; omega)]
        simp
    rw [List.getElem_set, get (i + 1) (by omega) h2]
    by_cases e : i = x
    · subst e
      rw [if_pos rfl, if_pos (by omega)]
    · rw [if_neg e, get i (by omega) _]
      by_cases c : x < i
      · rw [if_pos c, if_pos (by omega)]
      · rw [if_neg c, if_neg (by omega)]
end Gim

end

section
namespace Gim
open Go Go.RowKit Go.Proofs.YtnjobojkoaknpaaDoorW.PrintWords Go.Proofs.YtnjobojkoaknpaaDoorW.PrintLast Go.Proofs.YtnjobojkoaknpaaDoorW.PrintMore Go.Proofs.YtnjobojkoaknpaaDoor.F
set_option linter.unusedVariables false

theorem wu32_mod (x : Int) : IntKind.u32.wrap x = x % 4294967296 := by simp [IntKind.wrap, IntKind.bits, IntKind.signed]
theorem wraps_u32 (n : Int) (h₀ : 0 ≤ n) (h₁ : n < 2 ^ 32) : IntKind.u32.wrap n = n := by
  rw [wu32_mod]; have : n < 4294967296 := by simpa using h₁
  omega
theorem u32_or (i : Nat) {x y : Int} (hx₀ : 0 ≤ x) (hx : x % 2 ^ i = 0) (hx₁ : x < 4294967296) (hy₀ : 0 ≤ y) (hy : y < 2 ^ i) (hy₁ : y < 4294967296) : bits .or .u32 x y = x + y :=
  bits_join .u32 32 (by decide) wraps_u32 i x y hx₀ hx (by simpa using hx₁) hy₀ hy (by simpa using hy₁)
theorem shl_u32 {x n : Int} (hn : 0 ≤ n) (hn' : n ≤ 32) : shl .u32 x n = x * p2 n % 4294967296 := by
  unfold shl p2
  rw [wu32_mod, Nat.min_eq_left (by show n.toNat ≤ 32; omega)]
theorem shr_u32 {x n : Int} (hn : 0 ≤ n) (hn' : n ≤ 32) : shr .u32 x n = x / p2 n := by
  unfold shr p2
  rw [Nat.min_eq_left (by show n.toNat ≤ 32; omega)]
theorem p2_32 : p2 32 = 4294967296 := by decide
theorem Df {s : Int} (h0 : 0 ≤ s) (h1 : s ≤ 32) : p2 s * p2 (32 - s) = 4294967296 := by
  rw [← xm h0 (by omega), show s + (32 - s) = 32 by omega, p2_32]
theorem uu {l : List Int} {i : Nat} (h : i < l.length) : rd l (i : Int) = l[i] := by
  unfold rd; simp [List.getD_eq_getElem?_getD, h]
theorem rd_zero {l : List Int} (h : 0 < l.length) : rd l 0 = l[0] := uu (i := 0) h
theorem p2_mod {s : Int} (h0 : 0 ≤ s) (x : Int) : (x * p2 s) % 2 ^ s.toNat = 0 := Int.mul_emod_left _ _

section
variable {m : List Int} {s : Int} (hm : Dig m) (h0 : 0 < s) (h1 : s < 32) (hl : m.length ≤ 1000000)
include hm h0 h1 hl
theorem down_l0 : ∀ n i : Nat, m.length - i = n → i ≤ m.length → ∀ r, Ev (fun K => gz.l0 K m s (dn (p2 s) (p2 (32 - s)) m) m.length m.length) r →
    Ev (fun K => gz.l0 K m s (stp (dn (p2 s) (p2 (32 - s)) m) i) m.length i) r := by
  intro n
  induction n with
  | zero =>
    intro i e1 e2 r hr
    obtain rfl : i = m.length := by omega
    have := stp_full (dn (p2 s) (p2 (32 - s)) m)
    rw [D6] at this
    rw [this]; exact hr
  | succ n ih =>
    intro i e1 e2 r hr
    have hi : i < m.length := by omega
    have hP := qz s
    have hQ := qz (32 - s)
    have hPQ := Df (s := s) (by omega) (by omega)
    have hD := D6 (p2 s) (p2 (32 - s)) m
    have sl : (stp (dn (p2 s) (p2 (32 - s)) m) i).length = m.length := by rw [Cw (by omega), hD]
    have hg := dn_get (P := p2 s) (Q := p2 (32 - s)) hi
    have hset := stp_set (L := dn (p2 s) (p2 (32 - s)) m) (i := i) (by omega)
    have hrec := ih (i + 1) (by omega) (by omega) r hr
    have hd := hm.get hi
    refine Ev.succ ?_
    simp only [gz.l0]
    refine Ev.pos (by omega) (Ev.pos (by omega) (Ev.pos (by omega) (Ev.pos (by omega) (Ev.pos (by omega) (Ev.call rfl ?_)))))
    rw [uu hi, shr_u32 (by omega) (by omega), Int.toNat_natCast, w64 (x := (i : Int) + 1) (by omega) (by omega)]
    by_cases h2 : i + 1 < m.length
    · refine Ev.pos (by omega) (Ev.pos (by omega) ?_)
      rw [w64 (x := 32 - s) (by omega) (by omega)]
      refine Ev.pos (by omega) ?_
      have hd2 := hm.get h2
      have e3 : rd m ((i : Int) + 1) = m[i + 1] := uu (i := i + 1) h2
      have e4 : rd ((stp (dn (p2 s) (p2 (32 - s)) m) i).set i (m[i] / p2 s)) (i : Int) = m[i] / p2 s := by
        rw [uu (by rw [List.length_set]; omega)]; simp
      have e5 : m[i + 1] * p2 (32 - s) % 4294967296 = (m[i + 1] % p2 s) * p2 (32 - s) := by
        rw [← hPQ, Int.mul_comm m[i + 1], Int.mul_comm (p2 s), Int.mul_emod_mul_of_pos _ _ hQ, Int.mul_comm]
      have d0 := Int.ediv_nonneg hd.1 (Int.le_of_lt hP)
      have d1 : m[i] / p2 s < p2 (32 - s) := Int.ediv_lt_of_lt_mul hP (by rw [Int.mul_comm]; omega)
      have r0 := Int.emod_nonneg m[i + 1] (show p2 s ≠ 0 by omega)
      have r1 := Int.emod_lt_of_pos m[i + 1] hP
      have m0 := Int.mul_nonneg r0 (Int.le_of_lt hQ)
      have m1 : (m[i + 1] % p2 s) * p2 (32 - s) ≤ (p2 s - 1) * p2 (32 - s) := Int.mul_le_mul_of_nonneg_right (by omega) (Int.le_of_lt hQ)
      have m2 : (p2 s - 1) * p2 (32 - s) = 4294967296 - p2 (32 - s) := by grind
      rw [e3, e4, shl_u32 (by omega) (by omega), e5, E8, u32_or (32 - s).toNat m0 (p2_mod (by omega) _) (by omega) d0 d1 (by omega), List.set_set]
      rw [dif_pos h2] at hg
      rw [Int.add_comm, ← hg, hset]
      exact hrec
    · refine Ev.neg (by omega) ?_
      rw [dif_neg h2, Int.zero_mul, Int.add_zero] at hg
      rw [← hg, hset]
      exact hrec
theorem down_ev (hT : Top m) (hne : m ≠ []) (hd : nv m % p2 s = 0) : ∃ r, Ev (fun K => gz.f K m s) r ∧ Dig r ∧ Top r ∧ nv r * p2 s = nv m ∧ r.length ≤ m.length ∧ r ≠ [] := by
  have hP := qz s
  have hQ := qz (32 - s)
  have hPQ := Df (s := s) (by omega) (by omega)
  have hD := D6 (p2 s) (p2 (32 - s)) m
  have hpos := nv_pos hT hne
  have hlen : 0 < m.length := List.length_pos_iff.mpr hne
  have hdd := dn_dig hP hQ hPQ hm
  have hv : nv (dn (p2 s) (p2 (32 - s)) m) * p2 s = nv m := by
    have h2 := dn_nv hP hPQ m
    have h3 : m.headD 0 % p2 s = 0 := by
      rw [← h2, Int.add_emod, Int.mul_emod_left, Int.zero_add, Int.emod_emod_of_dvd _ (Int.dvd_refl _), Int.emod_emod_of_dvd _ (Int.dvd_refl _)] at hd
      exact hd
    omega
  have hvpos : 0 < nv (dn (p2 s) (p2 (32 - s)) m) := by
    refine Decidable.byContradiction fun hc => ?_
    have := Int.mul_le_mul_of_nonneg_right (show nv (dn (p2 s) (p2 (32 - s)) m) ≤ 0 by omega) (Int.le_of_lt hP)
    omega
  have start : ∀ r, Ev (fun K => gz.l0 K m s (dn (p2 s) (p2 (32 - s)) m) m.length m.length) r → Ev (fun K => gz.f K m s) r := by
    intro r hr
    unfold gz.f
    have p1 : (m.length : Int).toNat ≤ 70368744177664 := by rw [Int.toNat_natCast]; exact Nat.le_trans hl (by decide)
    refine Ev.pos (Int.natCast_nonneg _) (Ev.pos p1 ?_)
    have := down_l0 hm h0 h1 hl m.length 0 (by omega) (by omega) r hr
    rw [stp_zero, hD] at this
    rw [Int.toNat_natCast]
    exact this
  generalize hL : dn (p2 s) (p2 (32 - s)) m = L at *
  by_cases hz : L[L.length - 1]'(by omega) = 0
  · refine ⟨L.take (L.length - 1), start _ (Ev.succ ?_), hdd.take _, ?_, ?_, ?_, ?_⟩
    · simp only [gz.l0]
      refine Ev.neg (by omega) (Ev.pos (by omega) ?_)
      rw [w64 (by omega) (by omega)]
      have e : ((L.length : Int) - 1) = ((L.length - 1 : Nat) : Int) := by omega
      rw [e]
      refine Ev.pos (by omega) (Ev.pos (by omega) (Ev.pos (by rw [uu (by omega)]; exact hz) (Ev.pos (by omega) ?_)))
      rw [Int.toNat_natCast]
      exact Ev.now _
    · intro hne2
      have e2 := Cn (l := L) (by omega) hz
      have h3 := hT hne
      rw [List.length_take, Nat.min_eq_left (by omega), e2]
      have hn2 : 2 ≤ m.length := by
        refine Decidable.byContradiction fun hc => ?_
        apply hne2
        rw [show L.length - 1 = 0 by omega, List.take_zero]
      have h4 : bp (m.length - 1) = 4294967296 * bp (m.length - 2) := by rw [← Bj, show m.length - 2 + 1 = m.length - 1 by omega]
      have h5 := Cr (m.length - 2)
      rw [show L.length - 1 - 1 = m.length - 2 by omega]
      refine Decidable.byContradiction fun hc => ?_
      have h6 := Int.mul_le_mul_of_nonneg_right (show nv L ≤ bp (m.length - 2) - 1 by omega) (Int.le_of_lt hP)
      have h7 : p2 s ≤ 4294967296 := by rw [← p2_32]; exact Ag (by omega)
      have h8 := Int.mul_le_mul_of_nonneg_left h7 (Int.le_of_lt h5)
      have h9 : (bp (m.length - 2) - 1) * p2 s = bp (m.length - 2) * p2 s - p2 s := by grind
      omega
    · rw [Cn (by omega) hz]; exact hv
    · rw [List.length_take]; omega
    · intro hh
      have := Cn (l := L) (by omega) hz
      rw [hh] at this
      simp [nv] at this
      omega
  · refine ⟨L, start _ (Ev.succ ?_), hdd, Top.of_last hdd (by omega) hz, hv, by omega, fun hh => by rw [hh] at hvpos; simp [nv] at hvpos⟩
    simp only [gz.l0]
    refine Ev.neg (by omega) (Ev.pos (by omega) ?_)
    rw [w64 (by omega) (by omega)]
    have e : ((L.length : Int) - 1) = ((L.length - 1 : Nat) : Int) := by omega
    rw [e]
    exact Ev.pos (by omega) (Ev.pos (by omega) (Ev.neg (by rw [uu (by omega)]; exact hz) (Ev.now _)))
end

def Can (neg : Bool) (m : List Int) (e : Int) : Prop := Dig m ∧ Top m ∧ ((m = [] ∧ neg = false ∧ e = 0) ∨ (m ≠ [] ∧ nv m % 2 = 1))
def rz (neg : Bool) (m : List Int) (e : Int) : Rat := if neg then -((nv m : Rat) * pw e) else (nv m : Rat) * pw e
theorem ctz_spec {x : Int} (h0 : 0 < x) (h1 : x < 4294967296) : ∃ s : Nat, bits_TrailingZeros32.f x = some (s : Int) ∧ s < 32 ∧ ∃ q, x = p2 s * (2 * q + 1) := by
  obtain ⟨a, rfl⟩ := Int.eq_ofNat_of_zero_le (Int.le_of_lt h0)
  have ha : a ≠ 0 := by omega
  obtain ⟨q, e, hs⟩ := Lib.ctzFrom_spec 32 a (by omega) (by omega)
  refine ⟨Lib.ctzFrom 32 a, ?_, hs, (q : Int), ?_⟩
  · unfold bits_TrailingZeros32.f
    rw [if_pos (by omega), if_pos h1, Int.toNat_natCast]
    unfold Lib.ctz
    rw [if_neg ha]
  · have : ((a : Nat) : Int) = ((2 ^ Lib.ctzFrom 32 a * (2 * q + 1) : Nat) : Int) := congrArg _ e
    rw [this]
    unfold p2
    push_cast
    rw [Int.toNat_natCast]
theorem nv_head_mod {l : List Int} (h : 0 < l.length) : ∃ q, nv l = l[0] + 4294967296 * q := by
  cases l with
  | nil => simp at h
  | cons a l => exact ⟨nv l, rfl⟩

section
variable {neg : Bool} {l : List Int} {e : Int} (hl : Dig l) (hn : l.length ≤ 1000000) (he0 : -1000000000 ≤ e) (he1 : e ≤ 1000000000)
include hl hn he0 he1
theorem trim_l1 (ht : Top l) (hne : l ≠ []) : ∀ n k : Nat, l.length - k = n → k < l.length → nv (l.take k) = 0 →
    ∃ n' m' e', Ev (fun K => dx.l1 K neg l e k) (n', m', e') ∧ Can n' m' e' ∧ rz n' m' e' = rz neg l e := by
  intro n
  induction n with
  | zero => intro k e1 e2; omega
  | succ n ih =>
    intro k e1 e2 hz
    by_cases h0 : l[k] = 0
    · have hk2 : k + 1 < l.length := by
        refine Decidable.byContradiction fun hc => ?_
        have h1 := oo e2
        rw [h0, hz, show k + 1 = l.length by omega, List.take_length] at h1
        have := nv_pos ht hne
        omega
      obtain ⟨n', m', e', ev, c, v⟩ := ih (k + 1) (by omega) hk2 (by rw [oo e2, h0, hz]; simp)
      refine ⟨n', m', e', Ev.succ ?_, c, v⟩
      simp only [dx.l1]
      refine Ev.pos (by omega) (Ev.pos (by omega) (Ev.pos (by rw [uu e2]; exact h0) ?_))
      rw [w64 (by omega) (by omega)]
      exact ev
    · have hd := hl.get e2
      obtain ⟨s, hs, hs32, q, hq⟩ := ctz_spec (x := l[k]) (by omega) hd.2
      have hY : Dig (l.drop k) := hl.drop k
      have hYl : (l.drop k).length = l.length - k := List.length_drop
      have hY0 : (l.drop k)[0]'(by omega) = l[k] := by simp
      have hYne : l.drop k ≠ [] := List.length_pos_iff.mp (by omega)
      have hsplit := Cq l k (by omega)
      rw [hz, Int.zero_add] at hsplit
      have hbk := Cr k
      have hYt : Top (l.drop k) := by
        intro _
        have h1 := ht hne
        rw [hYl]
        have h2 : bp (l.length - 1) = bp k * bp (l.length - k - 1) := by rw [← bp_add, show k + (l.length - k - 1) = l.length - 1 by omega]
        rw [h2, hsplit] at h1
        exact Int.le_of_mul_le_mul_left h1 hbk
      obtain ⟨t, hq2⟩ := nv_head_mod (l := l.drop k) (by omega)
      rw [hY0] at hq2
      have hval : ∀ (r : List Int) (x : Int), nv r * p2 s = nv (l.drop k) → (x = e + 32 * k + s) → rz neg r x = rz neg l e := by
        intro r x h1 h2
        have h3 : (nv r : Rat) * pw x = (nv l : Rat) * pw e := by
          rw [hsplit, ← h1, h2, uj, uj, ← bp_pw, Ao (a := (s : Int)) (by omega)]
          push_cast
          grind
        unfold rz
        rw [h3]
      have step : ∀ ρ : Bool × List Int × Int, Ev (fun K => if (s : Int) > 0 then (gz.f K (l.drop k) (s : Int)).bind (fun t130 => some (neg, t130, wrap64 (wrap64 (e + wrap64 (32 * (k : Int))) + (s : Int)))) else some (neg, l.drop k, wrap64 (e + wrap64 (32 * (k : Int))))) ρ →
          Ev (fun K => dx.l1 K neg l e k) ρ := by
        intro ρ h
        refine Ev.succ ?_
        simp only [dx.l1]
        refine Ev.pos (by omega) (Ev.pos (by omega) (Ev.neg (by rw [uu e2]; exact h0) (Ev.pos (by omega) (Ev.call rfl ?_))))
        rw [Int.toNat_natCast]
        refine Ev.pos (by omega) ?_
        rw [rd_zero (by omega), hY0]
        exact Ev.call hs h
      have w1 : wrap64 (e + wrap64 (32 * (k : Int))) = e + 32 * k := by rw [w64 (x := 32 * (k : Int)) (by omega) (by omega), w64 (by omega) (by omega)]
      by_cases hs0 : s = 0
      · subst hs0
        have hp0 : p2 ((0 : Nat) : Int) = 1 := p2_0
        rw [hp0, Int.one_mul] at hq
        refine ⟨neg, l.drop k, e + 32 * k, step _ (Ev.neg (by omega) ?_), ⟨hY, hYt, .inr ⟨hYne, by rw [hq2, hq]; omega⟩⟩, hval _ _ (by rw [hp0, Int.mul_one]) (by omega)⟩
        rw [w1]
        exact Ev.now _
      · have hdiv : nv (l.drop k) % p2 s = 0 := by
          have h32 : (4294967296 : Int) = p2 s * p2 (32 - s) := (Df (by omega) (by omega)).symm
          rw [hq2, hq, h32, Int.mul_assoc, ← Int.mul_add]
          exact Int.mul_emod_right _ _
        obtain ⟨r, ev, rd_, rt, rv, rl, rne⟩ := down_ev (m := l.drop k) (s := (s : Int)) hY (by omega) (by omega) (by omega) hYt hYne hdiv
        refine ⟨neg, r, e + 32 * k + s, step _ (Ev.pos (by omega) (Ev.bind ev ?_)), ⟨rd_, rt, .inr ⟨rne, ?_⟩⟩, hval _ _ rv rfl⟩
        · rw [w1, w64 (by omega) (by omega)]
          exact Ev.now _
        · have hP := qz s
          have h32 : (4294967296 : Int) = p2 s * (2 * p2 (32 - s - 1)) := by
            rw [← Df (s := (s : Int)) (by omega) (by omega), ← Gc (by omega), show (32 : Int) - s - 1 + 1 = 32 - s by omega]
          have h4 : nv r = 2 * q + 1 + 2 * (p2 (32 - s - 1) * t) := by
            have h5 : nv r * p2 s = (2 * q + 1 + 2 * (p2 (32 - s - 1) * t)) * p2 s := by
              rw [rv, hq2, hq, h32]; grind
            exact Int.eq_of_mul_eq_mul_right (by omega) h5
          omega
theorem Dr : ∃ n' m' e', Ev (fun K => dx.f K neg l e) (n', m', e') ∧ Can n' m' e' ∧ rz n' m' e' = rz neg l e := by
  have key : ∀ n k : Nat, k = n → k ≤ l.length → nv (l.take k) = nv l → ∃ n' m' e', Ev (fun K => dx.l0 K neg l e k) (n', m', e') ∧ Can n' m' e' ∧ rz n' m' e' = rz neg l e := by
    intro n
    induction n with
    | zero =>
      intro k e1 e2 hv
      subst e1
      refine ⟨false, [], 0, Ev.succ ?_, ⟨Dig.nil, fun h => absurd rfl h, .inl ⟨rfl, rfl, rfl⟩⟩, ?_⟩
      · simp only [dx.l0]
        refine Ev.neg (by omega) (Ev.succ ?_)
        simp only [dx.j1]
        exact Ev.pos (by omega) (Ev.pos (by omega) (Ev.pos (by omega) (Ev.now _)))
      · have h0 : nv l = 0 := by rw [← hv]; simp [nv]
        unfold rz
        rw [h0]
        cases neg <;> simp [nv]
    | succ n ih =>
      intro k e1 e2 hv
      subst e1
      have hi : n < l.length := by omega
      by_cases h0 : l[n] = 0
      · obtain ⟨n', m', e', ev, c, v⟩ := ih n rfl (by omega) (by rw [← hv, oo hi, h0]; simp)
        refine ⟨n', m', e', Ev.succ ?_, c, v⟩
        simp only [dx.l0]
        refine Ev.pos (by omega) ?_
        have e : wrap64 (((n + 1 : Nat) : Int) - 1) = (n : Int) := by rw [w64 (by omega) (by omega)]; omega
        rw [e]
        exact Ev.pos (by omega) (Ev.pos (by omega) (Ev.pos (by rw [uu hi]; exact h0) ev))
      · have hlt : (l.take (n + 1)).length = n + 1 := by rw [List.length_take]; omega
        have hlast : (l.take (n + 1))[(l.take (n + 1)).length - 1]'(by omega) = l[n] := by
          rw [List.getElem_take]; congr 1; omega
        have hT : Top (l.take (n + 1)) := Top.of_last (hl.take _) (by omega) (by rw [hlast]; exact h0)
        obtain ⟨n', m', e', ev, c, v⟩ := trim_l1 (neg := neg) (l := l.take (n + 1)) (e := e) (hl.take _) (by omega) he0 he1 hT (List.length_pos_iff.mp (by omega)) (n + 1) 0 (by omega) (by omega) (by simp [nv])
        refine ⟨n', m', e', Ev.succ ?_, c, ?_⟩
        · simp only [dx.l0]
          refine Ev.pos (by omega) ?_
          have e : wrap64 (((n + 1 : Nat) : Int) - 1) = (n : Int) := by rw [w64 (by omega) (by omega)]; omega
          rw [e]
          refine Ev.pos (by omega) (Ev.pos (by omega) (Ev.neg (by rw [uu hi]; exact h0) (Ev.succ ?_)))
          simp only [dx.j1]
          refine Ev.pos (by omega) (Ev.pos (by omega) (Ev.neg (by omega) ?_))
          rw [Int.toNat_natCast]
          exact ev
        · rw [v]; unfold rz; rw [hv]
  have := key l.length l.length rfl (Nat.le_refl _) (by rw [List.take_length])
  unfold dx.f
  exact this
end
end Gim

end

section
namespace Gim
open Go Go.RowKit Go.Proofs.YtnjobojkoaknpaaDoorW.PrintWords Go.Proofs.YtnjobojkoaknpaaDoorW.PrintLast Go.Proofs.YtnjobojkoaknpaaDoorW.PrintMore Go.Proofs.YtnjobojkoaknpaaDoor.F
set_option linter.unusedVariables false

theorem bp_p2 (n : Nat) : bp n = p2 (32 * n) := by
  have e : (32 * (n : Int)).toNat = 32 * n := by omega
  unfold bp p2
  rw [e, Int.pow_mul]; rfl
section
variable {m : List Int} (hm : Dig m) (hl : m.length ≤ 1000000) {q : Nat} {s : Int} (hq : q ≤ 1000000) (s0 : 0 ≤ s) (s1 : s < 32)
include hm hl hq s0 s1
theorem up_l0 : ∀ n i : Nat, m.length - i = n → i ≤ m.length → ∀ (out : List Int) (c : Int), Dig out → out.length = q + i → 0 ≤ c → c < p2 s →
    nv out + bp (q + i) * c = bp q * (p2 s * nv (m.take i)) →
    ∃ r, Ev (fun K => lv.l0 K out s c m m.length i) r ∧ Dig r ∧ r.length = q + m.length + 1 ∧ nv r = bp q * (p2 s * nv m) := by
  intro n
  induction n with
  | zero =>
    intro i e1 e2 out c hd hlen c0 c1 hv
    obtain rfl : i = m.length := by omega
    have hp32 : p2 s ≤ 4294967296 := by rw [← p2_32]; exact Ag (by omega)
    refine ⟨out ++ [c], Ev.succ ?_, hd.append (Dig.one c0 (by omega)), by simp [hlen] <;> omega, ?_⟩
    · simp only [lv.l0]
      have p1 : out.length < 35184372088832 := Nat.lt_of_le_of_lt (show out.length ≤ 2000000 by omega) (by decide)
      exact Ev.neg (by omega) (Ev.pos p1 (Ev.now _))
    · rw [Bn, hlen, hv, List.take_length]
  | succ n ih =>
    intro i e1 e2 out c hd hlen c0 c1 hv
    have hi : i < m.length := by omega
    have hP := qz s
    have hQ := qz (32 - s)
    have hPQ := Df (s := s) (by omega) (by omega)
    have hx := hm.get hi
    have hp32 : p2 s ≤ 4294967296 := by rw [← p2_32]; exact Ag (by omega)
    have d0 := Int.ediv_nonneg hx.1 (Int.le_of_lt hQ)
    have d1 : m[i] / p2 (32 - s) < p2 s := Int.ediv_lt_of_lt_mul hQ (by omega)
    have e5 : m[i] * p2 s % 4294967296 = (m[i] % p2 (32 - s)) * p2 s := by
      rw [← hPQ, Int.mul_comm m[i], Int.mul_emod_mul_of_pos _ _ hP, Int.mul_comm]
    have hdm := Int.emod_add_mul_ediv m[i] (p2 (32 - s))
    have r0 := Int.emod_nonneg m[i] (show p2 (32 - s) ≠ 0 by omega)
    have r1 := Int.emod_lt_of_pos m[i] hQ
    have m0 := Int.mul_nonneg r0 (Int.le_of_lt hP)
    have m1 : (m[i] % p2 (32 - s)) * p2 s ≤ (p2 (32 - s) - 1) * p2 s := Int.mul_le_mul_of_nonneg_right (by omega) (Int.le_of_lt hP)
    have m2 : (p2 (32 - s) - 1) * p2 s = 4294967296 - p2 s := by grind
    obtain ⟨r, ev, rd_, rl, rv⟩ := ih (i + 1) (by omega) (by omega) (out ++ [(m[i] % p2 (32 - s)) * p2 s + c]) (m[i] / p2 (32 - s)) (hd.append (Dig.one (by omega) (by omega))) (by simp [hlen] <;> omega) d0 d1 (by
      have hb : bp (q + (i + 1)) = bp (q + i) * 4294967296 := by rw [← Nat.add_assoc, Bj, Int.mul_comm]
      have hb2 := bp_add q i
      rw [Bn, hlen, oo hi, hb]
      have h3 : m[i] * p2 s = (m[i] % p2 (32 - s)) * p2 s + 4294967296 * (m[i] / p2 (32 - s)) := by
        rw [← hPQ]; grind
      grind)
    refine ⟨r, Ev.succ ?_, rd_, rl, rv⟩
    simp only [lv.l0]
    have p1 : out.length < 35184372088832 := Nat.lt_of_le_of_lt (show out.length ≤ 2000000 by omega) (by decide)
    have hw : IntKind.u64.wrap m[i] = m[i] := wu64 hx.1 (by omega)
    refine Ev.pos (by omega) (Ev.pos (by omega) (Ev.pos (by omega) (Ev.pos s0 (Ev.pos p1 ?_))))
    rw [w64 (x := 32 - s) (by omega) (by omega), w64 (x := (i : Int) + 1) (by omega) (by omega), uu hi, hw]
    refine Ev.pos (by omega) ?_
    have e6 : m[i] / p2 (32 - s) % 4294967296 = m[i] / p2 (32 - s) := Int.emod_eq_of_lt d0 (by omega)
    rw [shl_u32 (by omega) (by omega), e5, u32_or s.toNat m0 (p2_mod (by omega) _) (by omega) c0 c1 (by omega), Dt (by omega) (by omega), e6]
    exact ev
end
theorem up_ev {m : List Int} (hm : Dig m) (hl : m.length ≤ 1000000) {n : Int} (h0 : 0 ≤ n) (h1 : n ≤ 10000000) :
    ∃ r, Ev (fun K => lv.f K m n) r ∧ Dig r ∧ (r.length : Int) = n / 32 + m.length + 1 ∧ nv r = nv m * p2 n := by
  obtain ⟨q, hq⟩ : ∃ q : Nat, (q : Int) = n / 32 := ⟨(n / 32).toNat, by omega⟩
  have ed : Int.tdiv n 32 = n / 32 := by rw [Int.tdiv_eq_ediv_of_nonneg h0]
  have em : Int.tmod n 32 = n % 32 := by rw [Int.tmod_eq_emod_of_nonneg h0]
  have hP := qz (n % 32)
  obtain ⟨r, ev, rd_, rl, rv⟩ := up_l0 hm hl (q := q) (s := n % 32) (by omega) (by omega) (by omega) m.length 0 (by omega) (by omega) (List.replicate q 0) 0 (Dig.zeros _) (by simp) (by omega) hP (by rw [nv_zeros]; simp [nv])
  refine ⟨r, ?_, rd_, by omega, ?_⟩
  · unfold lv.f
    rw [ed, em, w64 (x := n / 32) (by omega) (by omega), ← hq, w64 (x := (q : Int) + (m.length : Int)) (by omega) (by omega), w64 (x := (q : Int) + (m.length : Int) + 1) (by omega) (by omega)]
    have p1 : ((q : Int) + (m.length : Int) + 1).toNat ≤ 70368744177664 := by
      have : ((q : Int) + (m.length : Int) + 1).toNat = q + m.length + 1 := by omega
      rw [this]; exact Nat.le_trans (show q + m.length + 1 ≤ 2000001 by omega) (by decide)
    refine Ev.pos (by omega) (Ev.pos (by omega) (Ev.pos p1 ?_))
    rw [Int.toNat_natCast]
    exact ev
  · rw [rv, bp_p2]
    have : p2 n = p2 (32 * q) * p2 (n % 32) := by rw [← xm (by omega) (by omega)]; congr 1; omega
    rw [this]; grind
theorem G8 {l : List Int} (hl : Dig l) (hn : l.length ≤ 3000000) : ∃ r, Ev (fun K => iq.f K l) r ∧ Dig r ∧ Top r ∧ nv r = nv l ∧ r.length ≤ l.length := by
  have key : ∀ n k : Nat, k = n → k ≤ l.length → nv (l.take k) = nv l → ∃ r, Ev (fun K => iq.l0 K l k) r ∧ Dig r ∧ Top r ∧ nv r = nv l ∧ r.length ≤ l.length := by
    intro n
    induction n with
    | zero =>
      intro k e1 e2 hv
      subst e1
      refine ⟨[], Ev.succ ?_, Dig.nil, fun h => absurd rfl h, by rw [← hv]; simp [nv], by simp⟩
      simp only [iq.l0]
      exact Ev.neg (by omega) (Ev.pos (by omega) (Ev.pos (by omega) (Ev.now _)))
    | succ n ih =>
      intro k e1 e2 hv
      subst e1
      have hi : n < l.length := by omega
      have e : wrap64 (((n + 1 : Nat) : Int) - 1) = (n : Int) := by rw [w64 (by omega) (by omega)]; omega
      by_cases h0 : l[n] = 0
      · obtain ⟨r, ev, a, b, c, d⟩ := ih n rfl (by omega) (by rw [← hv, oo hi, h0]; simp)
        refine ⟨r, Ev.succ ?_, a, b, c, d⟩
        simp only [iq.l0]
        rw [e]
        exact Ev.pos (by omega) (Ev.pos (by omega) (Ev.pos (by omega) (Ev.pos (by rw [uu hi]; exact h0) ev)))
      · have hlt : (l.take (n + 1)).length = n + 1 := by rw [List.length_take]; omega
        have hlast : (l.take (n + 1))[(l.take (n + 1)).length - 1]'(by omega) = l[n] := by
          rw [List.getElem_take]; congr 1; omega
        refine ⟨l.take (n + 1), Ev.succ ?_, hl.take _, Top.of_last (hl.take _) (by omega) (by rw [hlast]; exact h0), hv, by omega⟩
        simp only [iq.l0]
        rw [e]
        refine Ev.pos (by omega) (Ev.pos (by omega) (Ev.pos (by omega) (Ev.neg (by rw [uu hi]; exact h0) (Ev.pos (by omega) (Ev.pos (by omega) ?_)))))
        rw [Int.toNat_natCast]
        exact Ev.now _
  have := key l.length l.length rfl (Nat.le_refl _) (by rw [List.take_length])
  unfold iq.f
  exact this
theorem line_ev {n n' : Bool} {a b : List Int} {e e' : Int} (ha : Dig a) (hb : Dig b) (la : a.length ≤ 1000000) (lb : b.length ≤ 1000000) (e0 : -4000000 ≤ e) (e1 : e ≤ 4000000) (f0 : -4000000 ≤ e') (f1 : e' ≤ 4000000) :
    ∃ X Y d, Ev (fun K => ny.f K n a e n' b e') (X, Y, d) ∧ d = mn e e' ∧ Dig X ∧ Dig Y ∧ Top X ∧ Top Y ∧ nv X = nv a * p2 (e - d) ∧ nv Y = nv b * p2 (e' - d) ∧ X.length ≤ 2000000 ∧ Y.length ≤ 2000000 := by
  have hd : mn e e' ≤ e ∧ mn e e' ≤ e' ∧ -4000000 ≤ mn e e' := by unfold mn; split <;> omega
  obtain ⟨r1, ev1, d1, l1, v1⟩ := up_ev ha la (n := e - mn e e') (by omega) (by omega)
  obtain ⟨X, ev2, d2, t2, v2, l2⟩ := G8 d1 (by omega)
  obtain ⟨r3, ev3, d3, l3, v3⟩ := up_ev hb lb (n := e' - mn e e') (by omega) (by omega)
  obtain ⟨Y, ev4, d4, t4, v4, l4⟩ := G8 d3 (by omega)
  refine ⟨X, Y, mn e e', ?_, rfl, d2, d4, t2, t4, by rw [v2, v1], by rw [v4, v3], by omega, by omega⟩
  unfold ny.f
  rw [w64 (x := e - mn e e') (by omega) (by omega), w64 (x := e' - mn e e') (by omega) (by omega)]
  exact Ev.bind ev1 (Ev.bind ev2 (Ev.bind ev3 (Ev.bind ev4 (Ev.now _))))
theorem sgn_lt {x : Int} (h : x < 0) : sgn x = -1 := by unfold sgn; rw [if_pos h]
theorem sgn_gt {x : Int} (h : 0 < x) : sgn x = 1 := by unfold sgn; rw [if_neg (by omega), if_neg (by omega)]
theorem sgn_eq {x : Int} (h : x = 0) : sgn x = 0 := by unfold sgn; rw [if_neg (by omega), if_pos h]
theorem top_lt {X Y : List Int} (hX : Dig X) (tY : Top Y) (h : X.length < Y.length) : nv X < nv Y := by
  have h1 := (yu hX).2
  have h2 := tY (List.length_pos_iff.mp (by omega))
  have h3 := bp_mono (show X.length ≤ Y.length - 1 by omega)
  omega
theorem digit_lt {X Y : List Int} (hX : Dig X) (hY : Dig Y) {i : Nat} (hi : i < X.length) (hi' : i < Y.length) (h : nv (X.drop (i + 1)) = nv (Y.drop (i + 1))) (hlt : X[i] < Y[i]) : nv X < nv Y := by
  have a := Cq X i (by omega)
  have b := Cq Y i (by omega)
  have c := Gg hi
  have d := Gg hi'
  have e := (yu (hX.take i)).2
  rw [List.length_take, Nat.min_eq_left (by omega)] at e
  have f := (yu (hY.take i)).1
  have g := Cr i
  have k : bp i * (nv (X.drop i) + 1) ≤ bp i * nv (Y.drop i) := Int.mul_le_mul_of_nonneg_left (by omega) (Int.le_of_lt g)
  rw [Int.mul_add, Int.mul_one] at k
  omega
theorem cmp_ev {X Y : List Int} (hX : Dig X) (hY : Dig Y) (tX : Top X) (tY : Top Y) (lX : X.length ≤ 3000000) (lY : Y.length ≤ 3000000) : Ev (fun K => l9.f K X Y) (sgn (nv X - nv Y)) := by
  unfold l9.f
  by_cases hl : X.length = Y.length
  · refine Ev.pos (by omega) ?_
    have key : ∀ j : Nat, j ≤ X.length → nv (X.drop j) = nv (Y.drop j) → Ev (fun K => l9.l0 K X Y ((j : Int) - 1)) (sgn (nv X - nv Y)) := by
      intro j
      induction j with
      | zero =>
        intro _ h
        simp only [List.drop_zero] at h
        rw [sgn_eq (by omega)]
        refine Ev.succ ?_
        simp only [l9.l0]
        exact Ev.neg (by omega) (Ev.now _)
      | succ j ih =>
        intro h1 h2
        have hi : j < X.length := by omega
        have hi' : j < Y.length := by omega
        have e : ((j + 1 : Nat) : Int) - 1 = (j : Int) := by omega
        rw [e]
        refine Ev.succ ?_
        simp only [l9.l0]
        refine Ev.pos (by omega) (Ev.pos (by omega) (Ev.pos (by omega) (Ev.pos (by omega) ?_)))
        rw [uu hi, uu hi']
        by_cases h3 : X[j] = Y[j]
        · refine Ev.pos h3 ?_
          rw [w64 (by omega) (by omega)]
          exact ih (by omega) (by rw [Gg hi, Gg hi', h3, h2])
        · refine Ev.neg h3 ?_
          by_cases h4 : X[j] < Y[j]
          · have := digit_lt hX hY hi hi' h2 h4
            rw [sgn_lt (by omega)]
            exact Ev.pos h4 (Ev.now _)
          · have := digit_lt hY hX hi' hi h2.symm (by omega)
            rw [sgn_gt (by omega)]
            exact Ev.neg h4 (Ev.now _)
    have := key X.length (Nat.le_refl _) (by rw [List.drop_length, hl, List.drop_length])
    rw [w64 (by omega) (by omega)]
    exact this
  · refine Ev.neg (by omega) ?_
    by_cases h : X.length < Y.length
    · have := top_lt hX tY h
      rw [sgn_lt (by omega)]
      exact Ev.pos (by omega) (Ev.now _)
    · have := top_lt hY tX (by omega)
      rw [sgn_gt (by omega)]
      exact Ev.neg (by omega) (Ev.now _)
end Gim

end
