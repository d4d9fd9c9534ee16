/- Texts of this claim, one behind the other: what the functions answer. -/
import Derived.Test.YtejkoahgmnejkaaDoorRx0
import Derived.Laws.BitsLemmas
set_option linter.constructorNameAsVariable false
set_option linter.unusedSimpArgs false
set_option linter.unusedVariables false
set_option linter.unusedSectionVars false
namespace Gim
set_option linter.unusedVariables false

def pw (e : Int) : Rat := (2 : Rat) ^ e
theorem two_ne : (2 : Rat) ≠ 0 := by decide
theorem pw_pos (e : Int) : 0 < pw e := Rat.zpow_pos (by decide)
theorem pw_ne (e : Int) : pw e ≠ 0 := by have := pw_pos e; grind
theorem pw_add (a b : Int) : pw (a + b) = pw a * pw b := Rat.zpow_add two_ne a b
theorem pw_zero : pw 0 = 1 := Rat.zpow_zero 2
theorem pw_one : pw 1 = 2 := Rat.zpow_one 2
theorem pw_succ (e : Int) : pw (e + 1) = 2 * pw e := by rw [pw_add, pw_one, Rat.mul_comm]
theorem pw_pred (e : Int) : 2 * pw (e - 1) = pw e := by
  have := pw_succ (e - 1)
  rw [Int.sub_add_cancel] at this
  exact this.symm
theorem pw_nat (n : Nat) : pw (n : Int) = ((2 ^ n : Int) : Rat) := by
  unfold pw
  rw [Rat.zpow_natCast]
  push_cast
  rfl
theorem pw_addNat (e : Int) (n : Nat) : pw (e + n) = ((2 ^ n : Int) : Rat) * pw e := by rw [pw_add, pw_nat, Rat.mul_comm]
theorem pw_le_add (e : Int) (n : Nat) : pw e ≤ pw (e + n) := by
  induction n with
  | zero => simp
  | succ n ih =>
    have h := pw_succ (e + n)
    have hp := pw_pos (e + n)
    have e1 : e + ((n + 1 : Nat) : Int) = e + n + 1 := by omega
    rw [e1, h]
    grind
theorem pw_mono {a b : Int} (h : a ≤ b) : pw a ≤ pw b := by
  obtain ⟨n, rfl⟩ : ∃ n : Nat, b = a + n := ⟨(b - a).toNat, by omega⟩
  exact pw_le_add a n
theorem pw_lt {a b : Int} (h : a < b) : 2 * pw a ≤ pw b := by
  rw [← pw_succ]
  exact pw_mono h
theorem pw_le_iff {a b : Int} : pw a ≤ pw b ↔ a ≤ b := by
  constructor
  · intro h
    by_cases hc : a ≤ b
    · exact hc
    · have := pw_lt (Int.not_le.mp hc)
      have := pw_pos b
      grind
  · exact pw_mono
theorem pw_neg_mul (e : Int) : pw (-e) * pw e = 1 := by rw [← pw_add, Int.add_left_neg, pw_zero]

/-- Whole numbers times one power of two: comparisons are those of the whole numbers. -/
theorem mul_pw_le {a b : Int} {e : Int} : (a : Rat) * pw e ≤ b * pw e ↔ a ≤ b := by
  have hp := pw_pos e
  constructor
  · intro h
    exact Rat.intCast_le_intCast.mp (Rat.le_of_mul_le_mul_right h hp)
  · intro h
    exact Rat.mul_le_mul_of_nonneg_right (Rat.intCast_le_intCast.mpr h) (Rat.le_of_lt hp)
theorem mul_pw_lt {a b : Int} {e : Int} : (a : Rat) * pw e < b * pw e ↔ a < b := by
  rw [← Rat.not_le, mul_pw_le, Int.not_le]
theorem mul_pw_inj {a b : Int} {e : Int} (h : (a : Rat) * pw e = b * pw e) : a = b := by
  have h1 := (mul_pw_le (e := e)).mp (by rw [h]; exact Rat.le_refl : (a : Rat) * pw e ≤ b * pw e)
  have h2 := (mul_pw_le (e := e)).mp (by rw [h]; exact Rat.le_refl : (b : Rat) * pw e ≤ a * pw e)
  omega
theorem mul_le_mul_right {a b c : Rat} (h : a ≤ b) (hc : 0 ≤ c) : a * c ≤ b * c := Rat.mul_le_mul_of_nonneg_right h hc

/-- n times 2^q is nearest to x (above 0), of two the even one. -/
structure Rnd (x : Rat) (q n : Int) : Prop where
  hq : -1074 ≤ q
  lo : q = -1074 ∨ (4503599627370496 : Int) * pw q ≤ x
  hi : x < (9007199254740992 : Int) * pw q
  pos : 0 < x
  near1 : 2 * x ≤ (2 * n + 1 : Int) * pw q
  near2 : (2 * n - 1 : Int) * pw q ≤ 2 * x
  tie1 : 2 * x = (2 * n + 1 : Int) * pw q → n % 2 = 0
  tie2 : 2 * x = (2 * n - 1 : Int) * pw q → n % 2 = 0

theorem Rnd.q_le {x y : Rat} {q n q' n' : Int} (h : Rnd x q n) (h' : Rnd y q' n') (hxy : x ≤ y) : q ≤ q' := by
  by_cases hc : q ≤ q'
  · exact hc
  · exfalso
    have hc := Int.not_le.mp hc
    have h1 : (4503599627370496 : Int) * pw q ≤ x := by
      rcases h.lo with h1 | h1
      · have := h'.hq; omega
      · exact h1
    have h2 := h'.hi
    have h3 := pw_lt hc
    push_cast at h1 h2
    grind
theorem Rnd.n_le {x : Rat} {q n : Int} (h : Rnd x q n) : n ≤ 9007199254740992 := by
  have h1 := h.near2
  have h2 := h.hi
  have h3 : (2 * n - 1 : Int) * pw q < (18014398509481984 : Int) * pw q := by push_cast at h1 h2 ⊢; grind
  have := mul_pw_lt.mp h3
  omega
theorem Rnd.n_ge {x : Rat} {q n : Int} (h : Rnd x q n) (hlo : (4503599627370496 : Int) * pw q ≤ x) : 4503599627370496 ≤ n := by
  have h1 := h.near1
  have h3 : (9007199254740992 : Int) * pw q ≤ (2 * n + 1 : Int) * pw q := by push_cast at h1 hlo ⊢; grind
  have := mul_pw_le.mp h3
  omega
theorem Rnd.n_nonneg {x : Rat} {q n : Int} (h : Rnd x q n) : 0 ≤ n := by
  have h1 := h.near1
  have h2 := h.pos
  have h3 : (0 : Int) * pw q < (2 * n + 1 : Int) * pw q := by push_cast at h1 ⊢; grind
  have := mul_pw_lt.mp h3
  omega
theorem Rnd.n_mono {x y : Rat} {q n n' : Int} (h : Rnd x q n) (h' : Rnd y q n') (hxy : x ≤ y) : n ≤ n' := by
  by_cases hc : n ≤ n'
  · exact hc
  · exfalso
    have hc := Int.not_le.mp hc
    have h1 := h.near2
    have h2 := h'.near1
    have h3 : (2 * n - 1 : Int) * pw q ≤ (2 * n' + 1 : Int) * pw q := by grind
    have h4 := mul_pw_le.mp h3
    have e : n = n' + 1 := by omega
    subst e
    have e1 : (2 * (n' + 1) - 1 : Int) = 2 * n' + 1 := by omega
    rw [e1] at h1
    have hx : 2 * x = (2 * n' + 1 : Int) * pw q := by grind
    have hy : 2 * y = (2 * n' + 1 : Int) * pw q := by grind
    have t1 := h'.tie1 hy
    have t2 := h.tie2 (by rw [e1]; exact hx)
    omega
theorem Rnd.unique {x : Rat} {q n q' n' : Int} (h : Rnd x q n) (h' : Rnd x q' n') : q = q' ∧ n = n' := by
  have h1 := h.q_le h' Rat.le_refl
  have h2 := h'.q_le h Rat.le_refl
  obtain rfl : q = q' := by omega
  have h3 := h.n_mono h' Rat.le_refl
  have h4 := h'.n_mono h Rat.le_refl
  omega

/-- The pattern of n times 2^q, where exponents have no upper bound. -/
def enc (q n : Int) : Int := (q + 1074) * 4503599627370496 + n

theorem Rnd.enc_mono {x y : Rat} {q n q' n' : Int} (h : Rnd x q n) (h' : Rnd y q' n') (hxy : x ≤ y) : enc q n ≤ enc q' n' := by
  have h1 := h.q_le h' hxy
  by_cases hc : q = q'
  · subst hc
    have := h.n_mono h' hxy
    unfold enc
    omega
  · have h2 := h.n_le
    have h3 : 4503599627370496 ≤ n' := by
      rcases h'.lo with h3 | h3
      · have := h.hq; omega
      · exact h'.n_ge h3
    unfold enc
    omega
theorem Rnd.enc_nonneg {x : Rat} {q n : Int} (h : Rnd x q n) : 0 ≤ enc q n := by
  have := h.hq; have := h.n_nonneg; unfold enc; omega

/-- A pattern without its sign: its whole number, its power, its value. -/
def mant (m : Int) : Int := if m < 4503599627370496 then m else m % 4503599627370496 + 4503599627370496
def expo (m : Int) : Int := if m < 4503599627370496 then -1074 else m / 4503599627370496 - 1075
def vm (m : Int) : Rat := (mant m : Rat) * pw (expo m)

theorem enc_mant (m : Int) (h : 0 ≤ m) : enc (expo m) (mant m) = m := by
  unfold enc expo mant
  split <;> omega
theorem mant_nonneg {m : Int} (h : 0 ≤ m) : 0 ≤ mant m := by unfold mant; split <;> omega
theorem mant_lt {m : Int} : mant m < 9007199254740992 := by unfold mant; split <;> omega
theorem expo_ge {m : Int} (h : 0 ≤ m) : -1074 ≤ expo m := by unfold expo; split <;> omega
theorem mant_ge {m : Int} (h : 0 ≤ m) : expo m = -1074 ∨ 4503599627370496 ≤ mant m := by unfold expo mant; split <;> omega
theorem vm_zero : vm 0 = 0 := by unfold vm mant; simp
theorem vm_nonneg {m : Int} (h : 0 ≤ m) : 0 ≤ vm m := by
  unfold vm
  have h1 : (0 : Rat) ≤ (mant m : Rat) := by exact_mod_cast mant_nonneg h
  exact Rat.mul_nonneg h1 (Rat.le_of_lt (pw_pos _))
theorem mant_pos {m : Int} (h : 0 < m) : 0 < mant m := by unfold mant; split <;> omega
theorem vm_pos {m : Int} (h : 0 < m) : 0 < vm m := by
  unfold vm
  have h1 : (0 : Rat) < (mant m : Rat) := by exact_mod_cast mant_pos h
  exact Rat.mul_pos h1 (pw_pos _)

/-- A number that is told already is nearest to itself. -/
theorem Rnd.self {q n : Int} (hq : -1074 ≤ q) (hn : 0 < n) (h1 : n < 9007199254740992) (h2 : q = -1074 ∨ 4503599627370496 ≤ n) : Rnd ((n : Rat) * pw q) q n := by
  have hp := pw_pos q
  have hn' : (0 : Rat) < (n : Rat) := by exact_mod_cast hn
  refine ⟨hq, ?_, mul_pw_lt.mpr h1, Rat.mul_pos hn' hp, ?_, ?_, ?_, ?_⟩
  · rcases h2 with h2 | h2
    · exact .inl h2
    · exact .inr (mul_pw_le.mpr h2)
  · push_cast; grind
  · push_cast; grind
  · intro h; push_cast at h; grind
  · intro h; push_cast at h; grind
theorem Rnd.of_vm {m : Int} (h : 0 < m) : Rnd (vm m) (expo m) (mant m) :=
  Rnd.self (expo_ge (Int.le_of_lt h)) (mant_pos h) mant_lt (mant_ge (Int.le_of_lt h))

theorem vm_mono {m m' : Int} (h0 : 0 ≤ m) (h : m ≤ m') : vm m ≤ vm m' := by
  by_cases hm : m = 0
  · subst hm; rw [vm_zero]; exact vm_nonneg (by omega)
  · by_cases hc : vm m ≤ vm m'
    · exact hc
    · have h1 := (Rnd.of_vm (m := m') (by omega)).enc_mono (Rnd.of_vm (m := m) (by omega)) (Rat.le_of_lt (Rat.not_le.mp hc))
      rw [enc_mant _ (by omega), enc_mant _ (by omega)] at h1
      obtain rfl : m = m' := by omega
      exact Rat.le_refl
/-- The value of what comes of rounding. -/
theorem vm_enc {q n : Int} (hq : -1074 ≤ q) (hn : 0 ≤ n) (h1 : n ≤ 9007199254740992) (h2 : q = -1074 ∨ 4503599627370496 ≤ n) : vm (enc q n) = (n : Rat) * pw q := by
  unfold vm
  by_cases ha : n < 4503599627370496
  · obtain rfl : q = -1074 := by omega
    have e : enc (-1074) n = n := by unfold enc; omega
    rw [e]
    unfold mant expo
    rw [if_pos ha, if_pos ha]
  · by_cases hb : n = 9007199254740992
    · subst hb
      have e1 : mant (enc q 9007199254740992) = 4503599627370496 := by unfold mant enc; rw [if_neg (by omega)]; omega
      have e2 : expo (enc q 9007199254740992) = q + 1 := by unfold expo enc; rw [if_neg (by omega)]; omega
      rw [e1, e2, pw_succ]
      push_cast
      grind
    · have e1 : mant (enc q n) = n := by unfold mant enc; rw [if_neg (by omega)]; omega
      have e2 : expo (enc q n) = q := by unfold expo enc; rw [if_neg (by omega)]; omega
      rw [e1, e2]
theorem Rnd.n_ge' {x : Rat} {q n : Int} (h : Rnd x q n) : q = -1074 ∨ 4503599627370496 ≤ n := by
  rcases h.lo with h1 | h1
  · exact .inl h1
  · exact .inr (h.n_ge h1)
theorem Rnd.val_enc {x : Rat} {q n : Int} (h : Rnd x q n) : vm (enc q n) = (n : Rat) * pw q :=
  vm_enc h.hq h.n_nonneg h.n_le h.n_ge'

/-- What rounding answers: a pattern without sign, and flags. -/
def INF : Int := 9218868437227405312
structure RB (x : Rat) (b f : Int) : Prop where
  ex : ∃ q n, Rnd x q n ∧ b = (if enc q n < INF then enc q n else INF) ∧
    f = if enc q n < INF then (if x = (n : Rat) * pw q then 0 else if x < pw (-1022) then 3 else 1) else 5

theorem RB.unique {x : Rat} {b f b' f' : Int} (h : RB x b f) (h' : RB x b' f') : b = b' ∧ f = f' := by
  obtain ⟨q, n, hr, rfl, rfl⟩ := h.ex
  obtain ⟨q', n', hr', rfl, rfl⟩ := h'.ex
  obtain ⟨rfl, rfl⟩ := hr.unique hr'
  exact ⟨rfl, rfl⟩
theorem RB.mono {x y : Rat} {b f b' f' : Int} (h : RB x b f) (h' : RB y b' f') (hxy : x ≤ y) : b ≤ b' := by
  obtain ⟨q, n, hr, rfl, rfl⟩ := h.ex
  obtain ⟨q', n', hr', rfl, rfl⟩ := h'.ex
  have := hr.enc_mono hr' hxy
  split <;> split <;> omega
theorem RB.range {x : Rat} {b f : Int} (h : RB x b f) : 0 ≤ b ∧ b ≤ INF := by
  obtain ⟨q, n, hr, rfl, rfl⟩ := h.ex
  have := hr.enc_nonneg
  unfold INF
  split <;> omega
/-- A number is rounded to itself. -/
theorem RB.self {m : Int} (h : 0 < m) (hm : m < INF) : RB (vm m) m 0 := by
  refine ⟨expo m, mant m, Rnd.of_vm h, ?_, ?_⟩
  · rw [enc_mant m (by omega), if_pos hm]
  · rw [enc_mant m (by omega), if_pos hm]; exact (if_pos rfl).symm
end Gim
namespace Gim
open Go Go.RowKit Go.Proofs.YtejkoahgmnejkaaDoorW.PrintWords Go.Proofs.YtejkoahgmnejkaaDoorW.PrintLast Go.Proofs.YtejkoahgmnejkaaDoorW.PrintMore
set_option linter.unusedVariables false

theorem w64 {x : Int} (h1 : -9223372036854775808 ≤ x) (h2 : x ≤ 9223372036854775807) : wrap64 x = x := by unfold wrap64; omega
theorem wu64 {x : Int} (h1 : 0 ≤ x) (h2 : x < 18446744073709551616) : IntKind.u64.wrap x = x := by
  simp [IntKind.wrap, IntKind.bits, IntKind.signed]; omega
theorem wu64_mod (x : Int) : IntKind.u64.wrap x = x % 18446744073709551616 := by
  simp [IntKind.wrap, IntKind.bits, IntKind.signed]
theorem wraps_u64 (n : Int) (h₀ : 0 ≤ n) (h₁ : n < 2 ^ 64) : IntKind.u64.wrap n = n := wu64 h₀ (by simpa using h₁)
theorem wraps_i64 (n : Int) (h₀ : 0 ≤ n) (h₁ : n < 2 ^ 63) : IntKind.i64.wrap n = n := by
  rw [IntKind.wrap_i64]; have : n < 9223372036854775808 := by simpa using h₁
  omega
theorem u64_and (i : Nat) (hi : i ≤ 64) {x : Int} (h₀ : 0 ≤ x) (h₁ : x < 18446744073709551616) : bits .and .u64 x (2 ^ i - 1) = x % 2 ^ i :=
  bits_mask .u64 64 (by decide) wraps_u64 i hi x h₀ (by simpa using h₁)
theorem u64_and1 {x : Int} (h₀ : 0 ≤ x) (h₁ : x < 18446744073709551616) : bits .and .u64 x 1 = x % 2 := u64_and 1 (by decide) h₀ h₁
theorem u64_and2047 {x : Int} (h₀ : 0 ≤ x) (h₁ : x < 18446744073709551616) : bits .and .u64 x 2047 = x % 2048 := u64_and 11 (by decide) h₀ h₁
theorem u64_and52 {x : Int} (h₀ : 0 ≤ x) (h₁ : x < 18446744073709551616) : bits .and .u64 x 4503599627370495 = x % 4503599627370496 := u64_and 52 (by decide) h₀ h₁
theorem u64_and32 {x : Int} (h₀ : 0 ≤ x) (h₁ : x < 18446744073709551616) : bits .and .u64 x 4294967295 = x % 4294967296 := u64_and 32 (by decide) h₀ h₁
theorem u64_or (i : Nat) {x y : Int} (hx₀ : 0 ≤ x) (hx : x % 2 ^ i = 0) (hx₁ : x < 18446744073709551616) (hy₀ : 0 ≤ y) (hy : y < 2 ^ i) (hy₁ : y < 18446744073709551616) : bits .or .u64 x y = x + y :=
  bits_join .u64 64 (by decide) wraps_u64 i x y hx₀ hx (by simpa using hx₁) hy₀ hy (by simpa using hy₁)
theorem bits_or_comm (k : IntKind) (x y : Int) : bits .or k x y = bits .or k y x := by
  unfold bits
  simp [BitVec.or_comm]
theorem u64_or' (i : Nat) {x y : Int} (hx₀ : 0 ≤ x) (hx : x % 2 ^ i = 0) (hx₁ : x < 18446744073709551616) (hy₀ : 0 ≤ y) (hy : y < 2 ^ i) (hy₁ : y < 18446744073709551616) : bits .or .u64 y x = x + y := by
  rw [bits_or_comm]; exact u64_or i hx₀ hx hx₁ hy₀ hy hy₁
theorem u64_or_zero {x y : Int} (hx₀ : 0 ≤ x) (hx₁ : x < 18446744073709551616) (hy₀ : 0 ≤ y) (hy₁ : y < 18446744073709551616) : (bits .or .u64 x y == 0) = (x == 0 && y == 0) := by
  obtain ⟨a, rfl⟩ := Int.eq_ofNat_of_zero_le hx₀
  obtain ⟨b, rfl⟩ := Int.eq_ofNat_of_zero_le hy₀
  rw [(bits_nat .u64 64 (by decide) wraps_u64 a b (by omega) (by omega)).2]
  rw [Bool.eq_iff_iff]
  simp [Nat.or_eq_zero_iff]
theorem u64_top {x : Int} (h₀ : 0 ≤ x) (h₁ : x < 18446744073709551616) : bits .andNot .u64 x 9223372036854775808 = x % 9223372036854775808 := by
  have e : bits .andNot .u64 x 9223372036854775808 = bits .and .u64 x (2 ^ 63 - 1) := by
    unfold bits
    simp only []
    congr 3
  rw [e, u64_and 63 (by decide) h₀ h₁]
  rfl
theorem u64_xor {x : Int} (h₀ : 0 ≤ x) (h₁ : x < 18446744073709551616) : bits .xor .u64 x 9223372036854775808 = if x < 9223372036854775808 then x + 9223372036854775808 else x - 9223372036854775808 := by
  obtain ⟨a, rfl⟩ := Int.eq_ofNat_of_zero_le h₀
  have e : bits .xor .u64 (a : Int) 9223372036854775808 = IntKind.u64.wrap ((a ^^^ 9223372036854775808 : Nat) : Int) := by
    have e0 : bits .xor .u64 (a : Int) 9223372036854775808 = IntKind.u64.wrap ((BitVec.ofInt 64 (a : Int) ^^^ BitVec.ofInt 64 9223372036854775808).toNat : Int) := rfl
    rw [e0, BitVec.toNat_xor, BitVec.ofInt_natCast, BitVec.toNat_ofNat, show a % 2 ^ 64 = a from Nat.mod_eq_of_lt (by omega)]
    rfl
  have k : (a ^^^ 9223372036854775808 : Nat) = if a < 9223372036854775808 then a + 9223372036854775808 else a - 9223372036854775808 := by
    split
    · rename_i hc
      have := Nat.two_pow_add_eq_or_of_lt (i := 63) (b := a) (by omega) 1
      have h2 : (9223372036854775808 : Nat) ^^^ a = 9223372036854775808 ||| a := by
        apply Nat.eq_of_testBit_eq
        intro i
        simp only [Nat.testBit_xor, Nat.testBit_or]
        by_cases hi : i = 63
        · subst hi
          have : a.testBit 63 = false := Nat.testBit_lt_two_pow (by omega)
          simp [this]
        · have : (9223372036854775808 : Nat).testBit i = false := by
            have : (9223372036854775808 : Nat) = 2 ^ 63 := by decide
            rw [this, Nat.testBit_two_pow]
            simp; omega
          simp [this]
      rw [Nat.xor_comm, h2]
      have h3 : (2 ^ 63 * 1 : Nat) = 9223372036854775808 := by decide
      rw [h3] at this
      omega
    · rename_i hc
      obtain ⟨b, rfl, hb⟩ : ∃ b, a = 9223372036854775808 + b ∧ b < 9223372036854775808 := ⟨a - 9223372036854775808, by omega, by omega⟩
      have := Nat.two_pow_add_eq_or_of_lt (i := 63) (b := b) (by omega) 1
      have h4 : (2 ^ 63 * 1 : Nat) = 9223372036854775808 := by decide
      rw [h4] at this
      have h2 : (9223372036854775808 : Nat) + b = 9223372036854775808 ||| b := by omega
      have h3 : (9223372036854775808 ||| b) ^^^ 9223372036854775808 = b := by
        apply Nat.eq_of_testBit_eq
        intro i
        simp only [Nat.testBit_xor, Nat.testBit_or]
        by_cases hi : i = 63
        · subst hi
          have h0 : b.testBit 63 = false := Nat.testBit_lt_two_pow (by omega)
          have h1 : (9223372036854775808 : Nat).testBit 63 = true := by decide
          simp [h0, h1]
        · have : (9223372036854775808 : Nat).testBit i = false := by
            have : (9223372036854775808 : Nat) = 2 ^ 63 := by decide
            rw [this, Nat.testBit_two_pow]
            simp; omega
          simp [this]
      rw [h2, h3]; omega
  rw [e, k]
  split
  · rw [wu64 (by omega) (by omega)]; split <;> omega
  · rw [wu64 (by omega) (by omega)]; split <;> omega
theorem i64_and (i : Nat) (hi : i ≤ 62) (x : Int) : bits .and .i64 x (2 ^ i - 1) = x % 2 ^ i := by
  have hpos : 0 < 2 ^ i := Nat.two_pow_pos i
  have hle : 2 ^ i ≤ 2 ^ 62 := Nat.pow_le_pow_right (by decide) hi
  have hc : ((2 : Int) ^ i - 1) = ((2 ^ i - 1 : Nat) : Int) := by
    rw [Int.natCast_sub hpos]; simp
  have e : bits .and .i64 x (2 ^ i - 1) = IntKind.i64.wrap (((x % 18446744073709551616).toNat % 2 ^ i : Nat) : Int) := by
    rw [hc]
    have e0 : bits .and .i64 x ((2 ^ i - 1 : Nat) : Int) = IntKind.i64.wrap ((BitVec.ofInt 64 x &&& BitVec.ofInt 64 ((2 ^ i - 1 : Nat) : Int)).toNat : Int) := rfl
    rw [e0, BitVec.toNat_and, BitVec.ofInt_natCast, BitVec.toNat_ofNat, BitVec.toNat_ofInt,
      Nat.mod_eq_of_lt (a := 2 ^ i - 1) (by have : 2 ^ 62 < 2 ^ 64 := by decide
                                            omega), Nat.and_two_pow_sub_one_eq_mod]
    rfl
  have hb : ((x % 18446744073709551616).toNat % 2 ^ i : Nat) < 2 ^ 62 := Nat.lt_of_lt_of_le (Nat.mod_lt _ hpos) hle
  have hb' : ((x % 18446744073709551616).toNat % 2 ^ i : Nat) < 4611686018427387904 := hb
  rw [e, wraps_i64 _ (by omega) (by omega)]
  have hm : 0 ≤ x % 18446744073709551616 := by omega
  have hp : ((2 ^ i : Nat) : Int) = 2 ^ i := by simp
  rw [Int.natCast_emod, Int.toNat_of_nonneg hm, hp]
  refine Int.emod_emod_of_dvd x ⟨2 ^ (64 - i), ?_⟩
  rw [← Int.pow_add, show i + (64 - i) = 64 from by omega]
  rfl

/-- From some number of rounds on. -/
theorem Ev.succ {α : Type} {g : Nat → Option α} {r : α} (h : Ev (fun k => g (k + 1)) r) : Ev g r := by
  obtain ⟨K, hK⟩ := h
  exact ⟨K + 1, fun k hk => by obtain ⟨j, rfl⟩ : ∃ j, k = j + 1 := ⟨k - 1, by omega⟩; exact hK j (by omega)⟩
theorem Ev.pos {α : Type} {c : Prop} [Decidable c] {a b : Nat → Option α} {r : α} (h : c) (k : Ev a r) : Ev (fun n => if c then a n else b n) r := by
  obtain ⟨K, hK⟩ := k
  exact ⟨K, fun n hn => by show (if c then a n else b n) = some r; rw [if_pos h]; exact hK n hn⟩
theorem Ev.neg {α : Type} {c : Prop} [Decidable c] {a b : Nat → Option α} {r : α} (h : ¬ c) (k : Ev b r) : Ev (fun n => if c then a n else b n) r := by
  obtain ⟨K, hK⟩ := k
  exact ⟨K, fun n hn => by show (if c then a n else b n) = some r; rw [if_neg h]; exact hK n hn⟩
theorem Ev.call {α β : Type} {g : Option α} {f : Nat → α → Option β} {a : α} {r : β} (h : g = some a) (k : Ev (fun n => f n a) r) : Ev (fun n => g.bind (f n)) r := by
  obtain ⟨K, hK⟩ := k
  exact ⟨K, fun n hn => by show g.bind (f n) = some r; rw [h]; exact hK n hn⟩
theorem Ev.same {α : Type} {g f : Nat → Option α} {r : α} (h : ∀ k, g k = f k) (k : Ev f r) : Ev g r := by
  obtain ⟨K, hK⟩ := k
  exact ⟨K, fun n hn => by rw [h n]; exact hK n hn⟩
theorem Ev.det {α : Type} {g : Nat → Option α} {r q : α} (h : Ev g r) (k : Ev g q) : r = q := by
  obtain ⟨K, hK⟩ := h
  obtain ⟨L, hL⟩ := k
  have h1 := hK (K + L) (by omega)
  rw [hL (K + L) (by omega)] at h1
  exact (Option.some.inj h1).symm
theorem mul_bound {a b m n : Int} (ha : 0 ≤ a) (hb : 0 ≤ b) (hm : a ≤ m) (hn : b ≤ n) : 0 ≤ a * b ∧ a * b ≤ m * n := by
  refine ⟨Int.mul_nonneg ha hb, ?_⟩
  exact Int.mul_le_mul hm hn hb (by omega)
def sgn (x : Int) : Int := if x < 0 then -1 else if x = 0 then 0 else 1

end Gim
namespace Gim
open Go Go.RowKit Go.Proofs.YtejkoahgmnejkaaDoorW.PrintWords Go.Proofs.YtejkoahgmnejkaaDoorW.PrintLast Go.Proofs.YtejkoahgmnejkaaDoorW.PrintMore Go.Proofs.YtejkoahgmnejkaaDoor.F
set_option linter.unusedVariables false

/-- A word of 64 bits. -/
def U (a : Int) : Prop := 0 ≤ a ∧ a < 18446744073709551616
/-- What a pattern without its sign stands for. -/
def kindOf (m : Int) : Int := if m = 0 then 1 else if m < 4503599627370496 then 2 else if m < 9218868437227405312 then 3 else if m = 9218868437227405312 then 4 else 5
def flip (a : Int) : Int := if a < 9223372036854775808 then a + 9223372036854775808 else a - 9223372036854775808

theorem word_Neg_eq {a : Int} (h : U a) : word_Neg.f a = some (decide (9223372036854775808 ≤ a)) := by
  obtain ⟨h0, h1⟩ := h
  unfold word_Neg.f
  congr 1
  rw [Bool.eq_iff_iff]
  simp
  omega
theorem word_Abs_eq {a : Int} (h : U a) : word_Abs.f a = some (a % 9223372036854775808) := by
  unfold word_Abs.f; rw [u64_top h.1 h.2]
theorem word_Exp_eq {a : Int} (h : U a) : word_Exp.f a = some (a / 4503599627370496 % 2048) := by
  obtain ⟨h0, h1⟩ := h
  unfold word_Exp.f
  rw [u64_and2047 (by omega) (by omega), w64 (by omega) (by omega)]
theorem word_Frac_eq {a : Int} (h : U a) : word_Frac.f a = some (a % 4503599627370496) := by
  unfold word_Frac.f; rw [u64_and52 h.1 h.2]
theorem kind1 {m : Int} : kindOf m = 1 ↔ m = 0 := by unfold kindOf; grind
theorem kind2 {m : Int} (h : 0 ≤ m) : kindOf m = 2 ↔ 0 < m ∧ m < 4503599627370496 := by unfold kindOf; grind
theorem kind3 {m : Int} (h : 0 ≤ m) : kindOf m = 3 ↔ 4503599627370496 ≤ m ∧ m < 9218868437227405312 := by unfold kindOf; grind
theorem kind4 {m : Int} (h : 0 ≤ m) : kindOf m = 4 ↔ m = 9218868437227405312 := by unfold kindOf; grind
theorem kind5 {m : Int} (h : 0 ≤ m) : kindOf m = 5 ↔ 9218868437227405312 < m := by unfold kindOf; grind
theorem mag_nonneg (a : Int) : 0 ≤ a % 9223372036854775808 := by omega
theorem word_Kind_ev {a : Int} (h : U a) : Ev (fun k => word_Kind.f k a) (kindOf (a % 9223372036854775808)) := by
  have hh := h
  obtain ⟨h0, h1⟩ := h
  unfold word_Kind.f
  refine Ev.call (word_Exp_eq hh) (Ev.call (word_Frac_eq hh) ?_)
  have hm := mag_nonneg a
  by_cases hE : a / 4503599627370496 % 2048 = 0
  · refine Ev.pos hE (Ev.succ ?_)
    simp only [word_Kind.j0]
    by_cases hF : a % 4503599627370496 = 0
    · rw [kind1.mpr (by omega)]
      exact Ev.pos (by simpa using hF) (Ev.now _)
    · rw [(kind2 hm).mpr (by omega)]
      exact Ev.neg (by simpa using hF) (Ev.pos hE (Ev.now _))
  · refine Ev.neg hE (Ev.succ ?_)
    simp only [word_Kind.j0]
    refine Ev.neg (by simp) (Ev.neg hE ?_)
    by_cases hN : a / 4503599627370496 % 2048 < 2047
    · rw [(kind3 hm).mpr (by omega)]
      exact Ev.pos hN (Ev.now _)
    · refine Ev.neg hN ?_
      by_cases hF : a % 4503599627370496 = 0
      · rw [(kind4 hm).mpr (by omega)]
        exact Ev.pos hF (Ev.now _)
      · rw [(kind5 hm).mpr (by omega)]
        exact Ev.neg hF (Ev.now _)
/-- Is it no number that signals? -/
def signals (a : Int) : Bool := decide (9218868437227405312 < a % 9223372036854775808) && decide (a / 2251799813685248 % 2 = 0)
theorem word_Signals_ev {a : Int} (h : U a) : Ev (fun k => word_Signals.f k a) (signals a) := by
  have hh := h
  obtain ⟨h0, h1⟩ := h
  unfold word_Signals.f
  refine Ev.bind (word_Kind_ev hh) ?_
  have hm := mag_nonneg a
  by_cases hk : 9218868437227405312 < a % 9223372036854775808
  · refine Ev.pos ((kind5 hm).mpr hk) ?_
    rw [u64_and1 (by omega) (by omega)]
    have e : signals a = (a / 2251799813685248 % 2 == 0) := by
      unfold signals
      rw [decide_eq_true hk, Bool.true_and, Bool.eq_iff_iff]
      simp
    rw [e]
    exact Ev.now _
  · refine Ev.neg (fun hc => hk ((kind5 hm).mp hc)) ?_
    have e : signals a = false := by unfold signals; rw [decide_eq_false hk, Bool.false_and]
    rw [e]
    exact Ev.now _
/-- A number that isn't zero. -/
theorem word_Parts_ev {a : Int} (h : U a) (h1 : 0 < a % 9223372036854775808) (h2 : a % 9223372036854775808 < 9218868437227405312) :
    Ev (fun k => word_Parts.f k a) (mant (a % 9223372036854775808), expo (a % 9223372036854775808)) := by
  have hh := h
  obtain ⟨h0, h3⟩ := h
  unfold word_Parts.f
  refine Ev.bind (word_Kind_ev hh) ?_
  have hm := mag_nonneg a
  by_cases hs : a % 9223372036854775808 < 4503599627370496
  · refine Ev.pos ((kind2 hm).mpr ⟨h1, hs⟩) (Ev.call (word_Frac_eq hh) ?_)
    have e1 : mant (a % 9223372036854775808) = a % 4503599627370496 := by unfold mant; rw [if_pos hs]; omega
    have e2 : expo (a % 9223372036854775808) = -1074 := by unfold expo; rw [if_pos hs]
    rw [e1, e2]
    exact Ev.now _
  · have k3 := (kind3 hm).mpr ⟨by omega, h2⟩
    refine Ev.neg (by rw [k3]; decide) (Ev.pos k3 (Ev.call (word_Frac_eq hh) (Ev.call (word_Exp_eq hh) ?_)))
    have e1 : bits .or .u64 (a % 4503599627370496) 4503599627370496 = 4503599627370496 + a % 4503599627370496 := u64_or' 52 (by omega) (by decide) (by omega) (by omega) (by simp; omega) (by omega)
    rw [e1, w64 (by omega) (by omega)]
    have e2 : mant (a % 9223372036854775808) = 4503599627370496 + a % 4503599627370496 := by unfold mant; rw [if_neg hs]; omega
    have e3 : expo (a % 9223372036854775808) = a / 4503599627370496 % 2048 - 1075 := by unfold expo; rw [if_neg hs]; omega
    rw [e2, e3]
    exact Ev.now _
theorem word_Parts_none {a : Int} (h : U a) (h1 : a % 9223372036854775808 = 0 ∨ 9218868437227405312 ≤ a % 9223372036854775808) : Ev (fun k => word_Parts.f k a) (0, 0) := by
  have hh := h
  unfold word_Parts.f
  refine Ev.bind (word_Kind_ev hh) ?_
  have hm := mag_nonneg a
  exact Ev.neg (fun hc => by have := (kind2 hm).mp hc; omega) (Ev.neg (fun hc => by have := (kind3 hm).mp hc; omega) (Ev.now _))

def signed (neg : Bool) (m : Int) : Int := if neg then m + 9223372036854775808 else m
theorem word_Make_eq (neg : Bool) {e f : Int} (he : 0 ≤ e) (he' : e < 2048) (hf : U f) : word_Make.f neg e f = some (signed neg (e * 4503599627370496 + f % 4503599627370496)) := by
  obtain ⟨h0, h1⟩ := hf
  unfold word_Make.f signed
  have p52 : (2 : Int) ^ 52 = 4503599627370496 := by decide
  have p63 : (2 : Int) ^ 63 = 9223372036854775808 := by decide
  have e1 : IntKind.u64.wrap e = e := wu64 he (by omega)
  rw [e1, u64_and2047 he (by omega), u64_and52 h0 h1, show e % 2048 = e from by omega, wu64 (by omega) (by omega)]
  have e2 : bits .or .u64 (e * 4503599627370496) (f % 4503599627370496) = e * 4503599627370496 + f % 4503599627370496 :=
    u64_or 52 (by omega) (by rw [p52]; omega) (by omega) (by omega) (by rw [p52]; omega) (by omega)
  rw [e2]
  cases neg
  · simp
  · simp only [if_true]
    rw [u64_or' 63 (by omega) (by rw [p63]; omega) (by omega) (by omega) (by rw [p63]; omega) (by omega), Int.add_comm]

/-- There is such a place. -/
def inB (r c s : Int) (d : List Int) (i k : Int) : Prop := 0 ≤ i ∧ i < r ∧ 0 ≤ k ∧ k < c ∧ 0 ≤ s ∧ i * s + k < (d.length : Int)
instance (r c s : Int) (d : List Int) (i k : Int) : Decidable (inB r c s d i k) := by unfold inB; exact inferInstance
/-- What stands there; of what isn't there: no number. -/
def at4 (r c s : Int) (d : List Int) (i k : Int) : Int := if inB r c s d i k then rd d (i * s + k) else 9221120237041090560
def set4 (r c s : Int) (d : List Int) (i k v : Int) : List Int := if inB r c s d i k then d.set (i * s + k).toNat v else d
/-- Sizes at which no index goes beyond a word. -/
def Sm (r c s : Int) : Prop := r ≤ 4096 ∧ c ≤ 4096 ∧ s ≤ 1099511627776

theorem idx_bound {i k r c s : Int} (h : Sm r c s) (h0 : 0 ≤ i) (h1 : i < r) (h2 : 0 ≤ k) (h3 : k < c) (h4 : 0 ≤ s) :
    wrap64 (i * s) = i * s ∧ wrap64 (wrap64 (i * s) + k) = i * s + k ∧ 0 ≤ i * s + k ∧ 0 ≤ i * s ∧ i * s + k ≤ 4503599627374592 := by
  obtain ⟨ha, hb, hc⟩ := h
  obtain ⟨b0, b1⟩ := mul_bound h0 h4 (show i ≤ 4096 by omega) hc
  have e : wrap64 (i * s) = i * s := w64 (by omega) (by omega)
  rw [e]
  exact ⟨rfl, w64 (by omega) (by omega), by omega, b0, by omega⟩
theorem in_eq {r c s : Int} (h : Sm r c s) (d : List Int) (i k : Int) : mat_Matrix_in.f r c s d i k = some (decide (inB r c s d i k)) := by
  unfold mat_Matrix_in.f
  by_cases h0 : i ≥ 0
  · rw [if_pos h0]
    by_cases h1 : i < r
    · rw [if_pos h1]
      by_cases h2 : k ≥ 0
      · rw [if_pos h2]
        by_cases h3 : k < c
        · rw [if_pos h3]
          by_cases h4 : s ≥ 0
          · rw [if_pos h4, (idx_bound h h0 h1 h2 h3 h4).2.1]
            congr 1
            rw [decide_eq_decide]
            exact ⟨fun h5 => ⟨h0, h1, h2, h3, h4, h5⟩, fun h5 => h5.2.2.2.2.2⟩
          · rw [if_neg h4, decide_eq_false (show ¬ inB r c s d i k from fun hb => h4 hb.2.2.2.2.1)]
        · rw [if_neg h3, decide_eq_false (show ¬ inB r c s d i k from fun hb => h3 hb.2.2.2.1)]
      · rw [if_neg h2, decide_eq_false (show ¬ inB r c s d i k from fun hb => h2 hb.2.2.1)]
    · rw [if_neg h1, decide_eq_false (show ¬ inB r c s d i k from fun hb => h1 hb.2.1)]
  · rw [if_neg h0, decide_eq_false (show ¬ inB r c s d i k from fun hb => h0 hb.1)]
theorem at_eq {r c s : Int} (h : Sm r c s) (d : List Int) (i k : Int) : mat_Matrix_At.f r c s d i k = some (at4 r c s d i k) := by
  unfold mat_Matrix_At.f at4
  rw [in_eq h]
  simp only [Option.bind_some]
  by_cases hb : inB r c s d i k
  · obtain ⟨h0, h1, h2, h3, h4, h5⟩ := id hb
    obtain ⟨e1, e2, e3, e4, e5⟩ := idx_bound h h0 h1 h2 h3 h4
    rw [if_pos (decide_eq_true hb), e2, if_pos e3, if_pos h5, if_pos hb]
  · rw [if_neg (by simpa using hb), if_neg hb]
theorem set_eq {r c s : Int} (h : Sm r c s) (d : List Int) (i k v : Int) : mat_Matrix_Set.f r c s d i k v = some (set4 r c s d i k v) := by
  unfold mat_Matrix_Set.f set4
  rw [in_eq h]
  simp only [Option.bind_some]
  by_cases hb : inB r c s d i k
  · obtain ⟨h0, h1, h2, h3, h4, h5⟩ := id hb
    obtain ⟨e1, e2, e3, e4, e5⟩ := idx_bound h h0 h1 h2 h3 h4
    rw [if_pos (decide_eq_true hb), e2, if_pos e3, if_pos h5, if_pos hb]
  · rw [if_neg (by simpa using hb), if_neg hb]
theorem new_eq {R C : Nat} (hR : R ≤ 4096) (hC : C ≤ 4096) : mat_New.f R C = some ((R : Int), (C : Int), (C : Int), List.replicate (R * C) 0) := by
  have hm : R * C ≤ 4096 * 4096 := Nat.mul_le_mul hR hC
  have e : wrap64 ((R : Int) * (C : Int)) = ((R * C : Nat) : Int) := by rw [← Int.natCast_mul]; exact w64 (by omega) (by omega)
  unfold mat_New.f
  rw [if_neg (by omega), if_neg (by omega), if_neg (by omega), if_neg (by omega), e, if_pos (by omega), if_pos (by omega)]
  rfl
theorem U_wf {a : Int} (h : (Lit.int .u64 a).wf = true) : U a := by
  simp [Lit.wf, IntKind.min, IntKind.max, IntKind.signed, IntKind.bits] at h
  unfold U; omega
theorem rd_set {l : List Int} {n m : Nat} {v : Int} (h : n < l.length) : rd (l.set n v) (m : Int) = if n = m then v else rd l m := by
  unfold rd
  simp only [Int.toNat_natCast, List.getD_eq_getElem?_getD, List.getElem?_set]
  by_cases e : n = m
  · subst e; simp [h]
  · simp [e]
theorem rd_lt {l : List Int} {n : Nat} (h : n < l.length) : rd l (n : Int) = l[n] := by
  unfold rd; simp [List.getD_eq_getElem?_getD, h]
theorem rd_mem {l : List Int} {i : Int} (h0 : 0 ≤ i) (h : i < (l.length : Int)) : rd l i ∈ l := by
  obtain ⟨n, rfl⟩ := Int.eq_ofNat_of_zero_le h0
  rw [rd_lt (by omega)]; exact List.getElem_mem _

/-- The numbers of a matrix of R rows and C columns, row by row. -/
def gat (R C : Nat) (g : Nat → Nat → Int) : List Int := (List.range (R * C)).map fun x => g (x / C) (x % C)
/-- The same, of which the first n stand already. -/
def part (R C : Nat) (g : Nat → Nat → Int) (n : Nat) : List Int := (List.range (R * C)).map fun x => if x < n then g (x / C) (x % C) else 0
theorem gat_length {R C : Nat} {g : Nat → Nat → Int} : (gat R C g).length = R * C := by simp [gat]
theorem part_length {R C n : Nat} {g : Nat → Nat → Int} : (part R C g n).length = R * C := by simp [part]
theorem part_zero {R C : Nat} {g : Nat → Nat → Int} : part R C g 0 = List.replicate (R * C) 0 := by
  apply List.ext_getElem
  · simp [part]
  · intro i h1 h2; simp [part]
theorem part_full {R C : Nat} {g : Nat → Nat → Int} : part R C g (R * C) = gat R C g := by
  apply List.ext_getElem
  · simp [part, gat]
  · intro i h1 h2
    have : i < R * C := by simpa [part] using h1
    simp [part, gat, this]
theorem place_lt {R C i k : Nat} (hi : i < R) (hk : k < C) : i * C + k < R * C := by
  have : (i + 1) * C ≤ R * C := Nat.mul_le_mul_right C hi
  rw [Nat.add_mul] at this; omega
theorem place_div {C i k : Nat} (hk : k < C) : (i * C + k) / C = i := by
  rw [Nat.mul_comm, Nat.mul_add_div (by omega), Nat.div_eq_of_lt hk, Nat.add_zero]
theorem place_mod {C i k : Nat} (hk : k < C) : (i * C + k) % C = k := by
  rw [Nat.mul_comm, Nat.mul_add_mod, Nat.mod_eq_of_lt hk]
theorem part_set {R C i k : Nat} {g : Nat → Nat → Int} (hi : i < R) (hk : k < C) : (part R C g (i * C + k)).set (i * C + k) (g i k) = part R C g (i * C + k + 1) := by
  apply List.ext_getElem
  · simp [part]
  · intro x h1 h2
    simp only [List.getElem_set, part, List.getElem_map, List.getElem_range]
    by_cases e : i * C + k = x
    · subst e
      rw [if_pos rfl, if_pos (by omega), place_div hk, place_mod hk]
    · rw [if_neg e]
      by_cases e2 : x < i * C + k
      · rw [if_pos e2, if_pos (by omega)]
      · rw [if_neg e2, if_neg (by omega)]
theorem inB_dense {R C : Nat} {d : List Int} (hd : d.length = R * C) {i k : Nat} (hi : i < R) (hk : k < C) : inB R C C d i k := by
  have := place_lt hi hk
  refine ⟨by omega, by omega, by omega, by omega, by omega, ?_⟩
  rw [hd, ← Int.natCast_mul, ← Int.natCast_add]; omega
theorem set_part {R C i k : Nat} {g : Nat → Nat → Int} (hi : i < R) (hk : k < C) : set4 R C C (part R C g (i * C + k)) i k (g i k) = part R C g (i * C + k + 1) := by
  unfold set4
  rw [if_pos (inB_dense part_length hi hk)]
  have e : ((i : Int) * (C : Int) + (k : Int)).toNat = i * C + k := by rw [← Int.natCast_mul, ← Int.natCast_add]; rfl
  rw [e]; exact part_set hi hk
theorem at_dense {R C : Nat} {d : List Int} (hd : d.length = R * C) {i k : Nat} (hi : i < R) (hk : k < C) : at4 R C C d i k = rd d ((i * C + k : Nat) : Int) := by
  unfold at4
  rw [if_pos (inB_dense hd hi hk)]; push_cast; rfl
theorem rd_gat {R C i k : Nat} {g : Nat → Nat → Int} (hi : i < R) (hk : k < C) : rd (gat R C g) ((i * C + k : Nat) : Int) = g i k := by
  have := place_lt hi hk
  rw [rd_lt (by rw [gat_length]; exact this)]
  simp [gat, place_div hk, place_mod hk]
theorem at_gat {R C i k : Nat} {g : Nat → Nat → Int} (hi : i < R) (hk : k < C) : at4 R C C (gat R C g) i k = g i k := by
  rw [at_dense gat_length hi hk, rd_gat hi hk]
theorem row_end {i C : Nat} : i * C + C = (i + 1) * C := by rw [Nat.add_mul]; omega
theorem Sm.nat {R C : Nat} (hR : R ≤ 4096) (hC : C ≤ 4096) : Sm R C C := ⟨by omega, by omega, by omega⟩
theorem at_U {r c s : Int} {d : List Int} (hd : ∀ x ∈ d, U x) (i k : Int) : U (at4 r c s d i k) := by
  unfold at4
  split
  · rename_i h
    obtain ⟨h0, h1, h2, h3, h4, h5⟩ := h
    have := Int.mul_nonneg h0 h4
    exact hd _ (rd_mem (by omega) h5)
  · exact ⟨by decide, by decide⟩
theorem gat_U {R C : Nat} {g : Nat → Nat → Int} (h : ∀ i k, U (g i k)) : ∀ x ∈ gat R C g, U x := by
  intro x hx
  unfold gat at hx
  obtain ⟨y, _, rfl⟩ := List.mem_map.mp hx
  exact h _ _

/-- Sizes that can't be. -/
def badSize (r c s : Int) : Prop := r < 0 ∨ 4096 < r ∨ c < 0 ∨ 4096 < c ∨ s < c ∨ 1099511627776 < s
instance (r c s : Int) : Decidable (badSize r c s) := by unfold badSize; exact inferInstance
def isMat (r c s : Int) (d : List Int) : Prop := ¬ badSize r c s ∧ (r = 0 ∨ c = 0 ∨ (r - 1) * s + c ≤ (d.length : Int))
instance (r c s : Int) (d : List Int) : Decidable (isMat r c s d) := by unfold isMat; exact inferInstance

theorem check_j0_true (r c s : Int) (d : List Int) : Ev (fun k => mat_Matrix_Check.j0 k true r c s d) 4 := by
  refine Ev.succ ?_
  simp only [mat_Matrix_Check.j0]
  exact Ev.pos trivial (Ev.now _)
theorem check_j1 {r c s : Int} (h : ¬ badSize r c s) (d : List Int) (b : Bool) (hb : b = decide (r = 0 ∨ c = 0)) :
    Ev (fun k => mat_Matrix_Check.j1 k b r c s d) (if isMat r c s d then 0 else 4) := by
  unfold badSize at h
  refine Ev.succ ?_
  simp only [mat_Matrix_Check.j1]
  by_cases h0 : r = 0 ∨ c = 0
  · rw [decide_eq_true h0] at hb
    refine Ev.pos hb ?_
    rw [if_pos (show isMat r c s d from ⟨h, by omega⟩)]
    exact Ev.now _
  · rw [decide_eq_false h0] at hb
    refine Ev.neg (by rw [hb]; decide) ?_
    obtain ⟨b0, b1⟩ := mul_bound (a := r - 1) (b := s) (m := 4096) (n := 1099511627776) (by omega) (by omega) (by omega) (by omega)
    rw [w64 (x := r - 1) (by omega) (by omega), w64 (x := (r - 1) * s) (by omega) (by omega), w64 (by omega) (by omega)]
    by_cases h1 : (r - 1) * s + c > (d.length : Int)
    · refine Ev.pos h1 ?_
      rw [if_neg (show ¬ isMat r c s d from fun hh => by have := hh.2; omega)]
      exact Ev.now _
    · refine Ev.neg h1 ?_
      rw [if_pos (show isMat r c s d from ⟨h, by omega⟩)]
      exact Ev.now _
theorem check_j0 {r c s : Int} (h : ¬ badSize r c s) (d : List Int) : Ev (fun k => mat_Matrix_Check.j0 k false r c s d) (if isMat r c s d then 0 else 4) := by
  refine Ev.succ ?_
  simp only [mat_Matrix_Check.j0]
  refine Ev.neg (by decide) ?_
  by_cases h0 : r = 0
  · exact Ev.pos h0 (check_j1 h d true (by rw [decide_eq_true (.inl h0)]))
  · refine Ev.neg h0 (check_j1 h d _ ?_)
    rw [Bool.eq_iff_iff, beq_iff_eq, decide_eq_true_eq]; omega
/-- Check: 0 of a matrix, 4 of all else. -/
theorem check_ev (r c s : Int) (d : List Int) : Ev (fun k => mat_Matrix_Check.f k r c s d) (if isMat r c s d then 0 else 4) := by
  have hbad : badSize r c s → Ev (fun k => mat_Matrix_Check.j0 k true r c s d) (if isMat r c s d then 0 else 4) := by
    intro hb
    rw [if_neg (fun hh => hh.1 hb)]
    exact check_j0_true r c s d
  unfold mat_Matrix_Check.f
  unfold badSize at hbad
  by_cases h1 : r < 0
  · exact Ev.pos h1 (hbad (by omega))
  · refine Ev.neg h1 ?_
    by_cases h2 : r > 4096
    · exact Ev.pos h2 (hbad (by omega))
    · refine Ev.neg h2 ?_
      by_cases h3 : c < 0
      · exact Ev.pos h3 (hbad (by omega))
      · refine Ev.neg h3 ?_
        by_cases h4 : c > 4096
        · exact Ev.pos h4 (hbad (by omega))
        · refine Ev.neg h4 ?_
          by_cases h5 : s < c
          · exact Ev.pos h5 (hbad (by omega))
          · refine Ev.neg h5 ?_
            by_cases h6 : s > 1099511627776
            · rw [decide_eq_true h6]; exact hbad (by omega)
            · rw [decide_eq_false h6]
              exact check_j0 (by unfold badSize; omega) d
theorem isMat_dense {R C : Nat} (hR : R ≤ 4096) (hC : C ≤ 4096) {d : List Int} (hd : d.length = R * C) : isMat R C C d := by
  refine ⟨by unfold badSize; omega, ?_⟩
  by_cases h0 : R = 0
  · left; omega
  · right; right
    obtain ⟨q, rfl⟩ : ∃ q, R = q + 1 := ⟨R - 1, by omega⟩
    rw [hd]
    have e : ((q + 1 : Nat) : Int) - 1 = (q : Int) := by omega
    rw [e, ← Int.natCast_mul, ← Int.natCast_add, ← row_end]; omega
theorem check_dense {R C : Nat} (hR : R ≤ 4096) (hC : C ≤ 4096) {d : List Int} (hd : d.length = R * C) : Ev (fun k => mat_Matrix_Check.f k R C C d) 0 := by
  have := check_ev R C C d
  rwa [if_pos (isMat_dense hR hC hd)] at this

theorem and3 (x : Int) : Go.bits .and .i64 x 3 = x % 4 := i64_and 2 (by decide) x
theorem and255 (x : Int) : Go.bits .and .i64 x 255 = x % 256 := i64_and 8 (by decide) x
theorem and63 (x : Int) : Go.bits .and .i64 x 63 = x % 64 := i64_and 6 (by decide) x
def Words (n : Nat) (d : List Int) : Prop := d.length = n ∧ ∀ x ∈ d, U x
theorem Words.set {n : Nat} {d : List Int} (h : Words n d) (i : Nat) {v : Int} (hv : U v) : Words n (d.set i v) := by
  refine ⟨by rw [List.length_set]; exact h.1, fun x hx => ?_⟩
  rcases List.mem_or_eq_of_mem_set hx with h1 | rfl
  · exact h.2 x h1
  · exact hv
theorem Words.set4 {n : Nat} {d : List Int} (h : Words n d) (r c s i k : Int) {v : Int} (hv : U v) : Words n (set4 r c s d i k v) := by
  unfold Gim.set4
  split
  · exact h.set _ hv
  · exact h
theorem U_zero : U 0 := ⟨by decide, by decide⟩
theorem Words.zeros (n : Nat) : Words n (List.replicate n 0) := ⟨List.length_replicate, fun x hx => by rw [(List.mem_replicate.mp hx).2]; exact U_zero⟩
theorem tmod_in {x : Int} {n : Nat} (h0 : 0 ≤ x) (hn : (n : Int) > 0) : 0 ≤ Int.tmod x n ∧ Int.tmod x n < (n : Int) := by
  rw [Int.tmod_eq_emod_of_nonneg h0]
  exact ⟨Int.emod_nonneg _ (by omega), Int.emod_lt_of_pos _ (by omega)⟩
theorem rd_Ui {l : List Int} (h : ∀ x ∈ l, U x) {i : Int} (h0 : 0 ≤ i) (h1 : i < (l.length : Int)) : U (rd l i) := h _ (rd_mem h0 h1)
/-- Nothing beneath the diagonal. -/
def Low (R : Nat) (d : List Int) : Prop := ∀ i k : Nat, i < R → k < i → at4 R R R d i k = 0
theorem Low.set {R : Nat} {d : List Int} (hd : d.length = R * R) (h : Low R d) {i k : Nat} (hi : i < R) (hk : k < R) (hik : i ≤ k) (v : Int) : Low R (set4 R R R d i k v) := by
  intro j l hj hl
  have hlen : (Gim.set4 R R R d i k v).length = R * R := by unfold Gim.set4; split <;> simp [hd]
  have hlR : l < R := by omega
  rw [at_dense hlen hj hlR]
  have h0 := h j l hj hl
  rw [at_dense hd hj hlR] at h0
  unfold Gim.set4
  rw [if_pos (inB_dense hd hi hk)]
  have p := place_lt hi hk
  have e : ((i : Int) * (R : Int) + (k : Int)).toNat = i * R + k := by rw [← Int.natCast_mul, ← Int.natCast_add]; exact Int.toNat_natCast _
  rw [e, rd_set (by omega), if_neg ?_]
  · exact h0
  · intro e2
    have a1 := place_div (i := i) hk
    have a2 := place_div (i := j) hlR
    rw [e2, a2] at a1
    have b1 := place_mod (i := i) hk
    have b2 := place_mod (i := j) hlR
    rw [e2, b2] at b1
    omega
section
variable {R : Nat} (hR : R ≤ 3) {all : List Int} (ha : ∀ x ∈ all, U x)
include hR ha
theorem upper_l1 {Q : List Int → Prop} {i : Nat} (hi : i < R) (next : ∀ d, Words (R * R) d → Low R d → ∃ L, Q L ∧ Ev (fun K => gimballaw19_Upper.l0 K R all 0 ((i : Int) + 1) R R R d) ((R : Int), (R : Int), (R : Int), L)) :
    ∀ m k : Nat, R - k = m → k ≤ R → i ≤ k → ∀ d, Words (R * R) d → Low R d → ∃ L, Q L ∧ Ev (fun K => gimballaw19_Upper.l1 K R all 0 i k R R R d) ((R : Int), (R : Int), (R : Int), L) := by
  intro m
  induction m with
  | zero =>
    intro k e1 e2 e3 d hd hl
    obtain ⟨L, hL, ev⟩ := next d hd hl
    refine ⟨L, hL, Ev.succ ?_⟩
    simp only [gimballaw19_Upper.l1]
    rw [w64 (x := (i : Int) + 1) (by omega) (by omega)]
    exact Ev.neg (by omega) ev
  | succ m ih =>
    intro k e1 e2 e3 d hd hl
    by_cases c : (all.length : Int) > 0
    · have hm : 0 ≤ (i : Int) * (R : Int) := by rw [← Int.natCast_mul]; exact Int.natCast_nonneg _
      have hm2 : (i : Int) * (R : Int) ≤ 9 := by
        rw [← Int.natCast_mul]
        have := Nat.mul_le_mul (show i ≤ 3 by omega) hR
        omega
      obtain ⟨t0, t1⟩ := tmod_in (x := (i : Int) * (R : Int) + (k : Int)) (n := all.length) (by omega) c
      obtain ⟨L, hL, ev⟩ := ih (k + 1) (by omega) (by omega) (by omega) (set4 R R R d i k (rd all (Int.tmod ((i : Int) * (R : Int) + (k : Int)) all.length))) (hd.set4 _ _ _ _ _ (rd_Ui ha t0 t1)) (Low.set hd.1 hl hi (by omega) e3 _)
      refine ⟨L, hL, Ev.succ ?_⟩
      simp only [gimballaw19_Upper.l1]
      rw [w64 (x := (i : Int) * (R : Int)) (by omega) (by omega), w64 (x := (i : Int) * (R : Int) + (k : Int)) (by omega) (by omega), w64 (x := (k : Int) + 1) (by omega) (by omega)]
      exact Ev.pos (by omega) (Ev.pos c (Ev.neg (by omega) (Ev.pos t0 (Ev.pos t1 (Ev.call (set_eq (Sm.nat (by omega) (by omega)) d i k _) ev)))))
    · obtain ⟨L, hL, ev⟩ := ih (k + 1) (by omega) (by omega) (by omega) d hd hl
      refine ⟨L, hL, Ev.succ ?_⟩
      simp only [gimballaw19_Upper.l1]
      rw [w64 (x := (k : Int) + 1) (by omega) (by omega)]
      exact Ev.pos (by omega) (Ev.neg c ev)
theorem upper_l2 {d : List Int} : ∀ m i : Nat, R - i = m → i ≤ R → Ev (fun K => gimballaw19_Upper.l2 K R all 0 i R R R d) ((R : Int), (R : Int), (R : Int), d) := by
  intro m
  induction m with
  | zero =>
    intro i e1 e2
    refine Ev.succ ?_
    simp only [gimballaw19_Upper.l2]
    rw [w64 (x := (i : Int) + 1) (by omega) (by omega)]
    exact Ev.neg (by omega) (Ev.now _)
  | succ m ih =>
    intro i e1 e2
    have ev := ih (i + 1) (by omega) (by omega)
    refine Ev.succ ?_
    simp only [gimballaw19_Upper.l2]
    rw [w64 (x := (i : Int) + 1) (by omega) (by omega)]
    by_cases c : (i : Int) + 1 < (R : Int)
    · have s0 : (0 : Int) ≤ IntKind.u64.wrap (Go.bits .and .i64 (i : Int) 63) := by
        rw [and63]
        have : IntKind.u64.wrap ((i : Int) % 64) = (i : Int) % 64 := by rw [wu64 (by omega) (by omega)]
        omega
      have s1 : ¬ Go.bits .and .u64 (shr .u64 0 (IntKind.u64.wrap (Go.bits .and .i64 (i : Int) 63))) 1 = 1 := by
        have : (i : Int) = 0 ∨ (i : Int) = 1 := by omega
        rcases this with h | h <;> rw [h] <;> decide
      refine Ev.pos c (Ev.call (at_eq (Sm.nat (by omega) (by omega)) _ _ _) (Ev.pos s0 (Ev.neg s1 (Ev.succ ?_))))
      simp only [gimballaw19_Upper.j3]
      rw [w64 (x := (i : Int) + 1) (by omega) (by omega)]
      exact Ev.neg (by simp) ev
    · exact Ev.neg c (Ev.now _)
theorem upper_l0 : ∀ m i : Nat, R - i = m → i ≤ R → ∀ d, Words (R * R) d → Low R d → ∃ L, (Words (R * R) L ∧ Low R L) ∧ Ev (fun K => gimballaw19_Upper.l0 K R all 0 i R R R d) ((R : Int), (R : Int), (R : Int), L) := by
  intro m
  induction m with
  | zero =>
    intro i e1 e2 d hd hl
    refine ⟨d, ⟨hd, hl⟩, Ev.succ ?_⟩
    simp only [gimballaw19_Upper.l0]
    exact Ev.neg (by omega) (upper_l2 hR ha R 0 (by omega) (by omega))
  | succ m ih =>
    intro i e1 e2 d hd hl
    obtain ⟨L, hL, ev⟩ := upper_l1 hR ha (i := i) (by omega) (fun d hd hl => ih (i + 1) (by omega) (by omega) d hd hl) (R - i) i (by omega) (by omega) (Nat.le_refl _) d hd hl
    refine ⟨L, hL, Ev.succ ?_⟩
    simp only [gimballaw19_Upper.l0]
    exact Ev.pos (by omega) ev
theorem low_zeros : Low R (List.replicate (R * R) 0) := by
  intro i k hi hk
  rw [at_dense List.length_replicate hi (show k < R by omega)]
  have p := place_lt hi (show k < R by omega)
  rw [rd_lt (by rw [List.length_replicate]; exact p), List.getElem_replicate]
theorem upper_ev : ∃ L, (Words (R * R) L ∧ Low R L) ∧ Ev (fun K => gimballaw19_Upper.f K R all 0) ((R : Int), (R : Int), (R : Int), L) := by
  obtain ⟨L, hL, ev⟩ := upper_l0 hR ha R 0 (by omega) (by omega) _ (Words.zeros _) (low_zeros hR ha)
  refine ⟨L, hL, ?_⟩
  unfold gimballaw19_Upper.f
  exact Ev.call (new_eq (by omega) (by omega)) ev
variable {C : Nat} (hC : C ≤ 3)
include hC
theorem made_l0 {r c s : Int} : ∀ m i : Nat, R * C - i = m → i ≤ R * C → ∀ d, Words (R * C) d → ∃ L, Words (R * C) L ∧ Ev (fun K => gimballaw21_made.l0 K all 0 ((R * C : Nat) : Int) i r c s d) (r, c, s, L) := by
  have h9 : R * C ≤ 9 := Nat.mul_le_mul hR hC
  intro m
  induction m with
  | zero =>
    intro i e1 e2 d hd
    refine ⟨d, hd, Ev.succ ?_⟩
    simp only [gimballaw21_made.l0]
    exact Ev.neg (by omega) (Ev.now _)
  | succ m ih =>
    intro i e1 e2 d hd
    have hl := hd.1
    by_cases c : (all.length : Int) > 0
    · obtain ⟨t0, t1⟩ := tmod_in (x := (i : Int) + 0) (n := all.length) (by omega) c
      obtain ⟨L, hL, ev⟩ := ih (i + 1) (by omega) (by omega) (d.set i (rd all (Int.tmod ((i : Int) + 0) all.length))) (hd.set _ (rd_Ui ha t0 t1))
      refine ⟨L, hL, Ev.succ ?_⟩
      simp only [gimballaw21_made.l0]
      rw [w64 (x := (i : Int) + 0) (by omega) (by omega), w64 (x := (i : Int) + 1) (by omega) (by omega), Int.toNat_natCast]
      exact Ev.pos (by omega) (Ev.pos c (Ev.neg (by omega) (Ev.pos t0 (Ev.pos t1 (Ev.pos (by omega) (Ev.pos (by omega) ev))))))
    · obtain ⟨L, hL, ev⟩ := ih (i + 1) (by omega) (by omega) d hd
      refine ⟨L, hL, Ev.succ ?_⟩
      simp only [gimballaw21_made.l0]
      rw [w64 (x := (i : Int) + 1) (by omega) (by omega)]
      exact Ev.pos (by omega) (Ev.neg c ev)
theorem made_ev : ∃ L, Words (R * C) L ∧ Ev (fun K => gimballaw21_made.f K R C all 0) ((R : Int), (C : Int), (C : Int), L) := by
  obtain ⟨L, hL, ev⟩ := made_l0 hR ha hC (r := R) (c := C) (s := C) (R * C) 0 (by omega) (by omega) _ (Words.zeros _)
  refine ⟨L, hL, ?_⟩
  unfold gimballaw21_made.f
  refine Ev.call (new_eq (by omega) (by omega)) ?_
  simp only [List.length_replicate]
  exact ev
end
/-- The numbers from 0 on. -/
def ups (n : Nat) : List Int := (List.range n).map fun i : Nat => (i : Int)
theorem ups_succ (n : Nat) : ups (n + 1) = ups n ++ [(n : Int)] := by simp [ups, List.range_succ]
theorem ups_length (n : Nat) : (ups n).length = n := by simp [ups]
theorem ups_rd {n i : Nat} (h : i < n) : rd (ups n) (i : Int) = i := by rw [rd_lt (by rw [ups_length]; exact h)]; simp [ups]
section
variable {R : Nat} (hR : R ≤ 3) {d : List Int} (hd : Words (R * R) d) (hl : Low R d)
include hR hd hl
theorem hess_j2 {i k : Int} {t : Bool} (h : t = true → Ev (fun K => hess_Is.l1 K i (k + 1) R R R d) true) (hk : t = true → at4 R R R d i k = 0 ∧ -100 ≤ k ∧ k ≤ 100) (h2 : t = false → Ev (fun K => hess_Is.l0 K (wrap64 (i + 1)) R R R d) true) : Ev (fun K => hess_Is.j2 K i k t R R R d) true := by
  refine Ev.succ ?_
  simp only [hess_Is.j2]
  cases t with
  | true =>
    obtain ⟨e, b1, b2⟩ := hk rfl
    have k0 := word_Kind_ev (a := 0) ⟨by decide, by decide⟩
    have ka : Ev (fun K => mat_Matrix_At.f R R R d i k) 0 := ⟨0, fun _ _ => by rw [at_eq (Sm.nat (by omega) (by omega)), e]⟩
    rw [w64 (x := k + 1) (by omega) (by omega)]
    exact Ev.pos rfl (Ev.bind ka (Ev.bind k0 (Ev.pos (by decide) (h rfl))))
  | false => exact Ev.neg (by simp) (h2 rfl)
theorem hess_l1 {i : Nat} (hi : i < R) (h2 : Ev (fun K => hess_Is.l0 K ((i : Int) + 1) R R R d) true) : ∀ m k : Nat, i - k = m → k ≤ i → Ev (fun K => hess_Is.l1 K i k R R R d) true := by
  intro m
  induction m with
  | zero =>
    intro k e1 e2
    refine Ev.succ ?_
    simp only [hess_Is.l1]
    rw [w64 (x := (i : Int) - 1) (by omega) (by omega)]
    refine Ev.neg (by omega) (hess_j2 hR hd hl (fun h => by cases h) (fun h => by cases h) (fun _ => ?_))
    rw [w64 (x := (i : Int) + 1) (by omega) (by omega)]
    exact h2
  | succ m ih =>
    intro k e1 e2
    refine Ev.succ ?_
    simp only [hess_Is.l1]
    rw [w64 (x := (i : Int) - 1) (by omega) (by omega)]
    by_cases c : (k : Int) < (i : Int) - 1
    · rw [decide_eq_true (show (k : Int) < (R : Int) by omega)]
      refine Ev.pos c (hess_j2 hR hd hl (fun _ => ih (k + 1) (by omega) (by omega)) (fun _ => ⟨hl i k hi (by omega), by omega, by omega⟩) (fun h => by cases h))
    · refine Ev.neg c (hess_j2 hR hd hl (fun h => by cases h) (fun h => by cases h) (fun _ => ?_))
      rw [w64 (x := (i : Int) + 1) (by omega) (by omega)]
      exact h2
theorem hess_l0 : ∀ m i : Nat, R - i = m → Ev (fun K => hess_Is.l0 K i R R R d) true := by
  intro m
  induction m with
  | zero =>
    intro i e1
    refine Ev.succ ?_
    simp only [hess_Is.l0]
    exact Ev.neg (by omega) (Ev.now _)
  | succ m ih =>
    intro i e1
    refine Ev.succ ?_
    simp only [hess_Is.l0]
    exact Ev.pos (by omega) (hess_l1 hR hd hl (by omega) (ih (i + 1) (by omega)) i 0 (by omega) (by omega))
theorem blocks_l0 : ∀ m i : Nat, R - i = m → i ≤ R → Ev (fun K => schur_Blocks.l0 K (ups i) i R R R d) (ups R, true) := by
  intro m
  induction m with
  | zero =>
    intro i e1 e2
    obtain rfl : i = R := by omega
    refine Ev.succ ?_
    simp only [schur_Blocks.l0]
    exact Ev.neg (by omega) (Ev.now _)
  | succ m ih =>
    intro i e1 e2
    have ev := ih (i + 1) (by omega) (by omega)
    rw [ups_succ] at ev
    have j2 : Ev (fun K => schur_Blocks.j2 K (ups i ++ [(i : Int)]) i true R R R d) (ups R, true) := by
      refine Ev.succ ?_
      simp only [schur_Blocks.j2]
      rw [w64 (x := (i : Int) + 1) (by omega) (by omega)]
      exact Ev.pos (by trivial) ev
    refine Ev.succ ?_
    simp only [schur_Blocks.l0]
    rw [w64 (x := (i : Int) + 1) (by omega) (by omega)]
    refine Ev.pos (by omega) (Ev.pos (by rw [ups_length]; omega) ?_)
    by_cases c : (i : Int) + 1 = (R : Int)
    · exact Ev.pos c j2
    · have k0 := word_Kind_ev (a := 0) ⟨by decide, by decide⟩
      have ka : Ev (fun K => mat_Matrix_At.f R R R d ((i : Int) + 1) i) 0 := ⟨0, fun _ _ => by rw [at_eq (Sm.nat (by omega) (by omega))]; exact congrArg some (hl (i + 1) i (by omega) (by omega))⟩
      exact Ev.neg c (Ev.bind ka (Ev.bind k0 j2))
theorem blocks_ev : Ev (fun K => schur_Blocks.f K R R R d) (ups R, true) := by
  unfold schur_Blocks.f
  refine Ev.bind (check_dense (by omega) (by omega) hd.1) (Ev.pos rfl (Ev.pos rfl (Ev.bind (hess_l0 hR hd hl (R - 2) 2 rfl) (Ev.succ ?_))))
  simp only [schur_Blocks.j0]
  exact Ev.neg (by simp) (blocks_l0 hR hd hl R 0 (by omega) (by omega))
end

/-- What stands in a matrix, by natural numbers. -/
def atN (r c s : Int) (d : List Int) (i k : Nat) : Int := at4 r c s d i k
theorem clone_l1 {R C : Nat} (hR : R ≤ 4096) (hC : C ≤ 4096) {s : Int} (hs : s ≤ 1099511627776) (d : List Int) {ρ : Int × Int × Int × List Int} {i : Nat} (hi : i < R)
    (hk : Ev (fun K => mat_Matrix_Clone.l0 K R ((i : Int) + 1) R C s d R C C (part R C (atN R C s d) ((i + 1) * C))) ρ) :
    ∀ n k : Nat, C - k = n → k ≤ C → Ev (fun K => mat_Matrix_Clone.l1 K i R i C k R C s d R C C (part R C (atN R C s d) (i * C + k))) ρ := by
  intro n
  induction n with
  | zero =>
    intro k h1 h2
    obtain rfl : k = C := by omega
    refine Ev.succ ?_
    simp only [mat_Matrix_Clone.l1]
    refine Ev.neg (by omega) ?_
    rw [w64 (by omega) (by omega), row_end]
    exact hk
  | succ n ih =>
    intro k h1 h2
    refine Ev.succ ?_
    simp only [mat_Matrix_Clone.l1]
    refine Ev.pos (by omega) (Ev.call (at_eq ⟨by omega, by omega, hs⟩ d i k) (Ev.call (set_eq (Sm.nat hR hC) _ i k _) ?_))
    rw [w64 (by omega) (by omega), show at4 (R : Int) (C : Int) s d i k = atN R C s d i k from rfl, set_part hi (by omega)]
    have := ih (k + 1) (by omega) (by omega)
    exact this
theorem clone_l0 {R C : Nat} (hR : R ≤ 4096) (hC : C ≤ 4096) {s : Int} (hs : s ≤ 1099511627776) (d : List Int) :
    ∀ n i : Nat, R - i = n → i ≤ R → Ev (fun K => mat_Matrix_Clone.l0 K R i R C s d R C C (part R C (atN R C s d) (i * C))) ((R : Int), (C : Int), (C : Int), gat R C (atN R C s d)) := by
  intro n
  induction n with
  | zero =>
    intro i h1 h2
    obtain rfl : i = R := by omega
    refine Ev.succ ?_
    simp only [mat_Matrix_Clone.l0]
    refine Ev.neg (by omega) ?_
    rw [part_full]
    exact Ev.now _
  | succ n ih =>
    intro i h1 h2
    refine Ev.succ ?_
    simp only [mat_Matrix_Clone.l0]
    refine Ev.pos (by omega) ?_
    have := clone_l1 hR hC hs d (ρ := ((R : Int), (C : Int), (C : Int), gat R C (atN R C s d))) (i := i) (by omega) (ih (i + 1) (by omega) (by omega)) C 0 (by omega) (by omega)
    exact this
theorem clone_ev {R C : Nat} (hR : R ≤ 4096) (hC : C ≤ 4096) {s : Int} (hs : s ≤ 1099511627776) (d : List Int) :
    Ev (fun K => mat_Matrix_Clone.f K R C s d) ((R : Int), (C : Int), (C : Int), gat R C (atN R C s d)) := by
  unfold mat_Matrix_Clone.f
  refine Ev.call (new_eq hR hC) ?_
  have := clone_l0 hR hC hs d R 0 (by omega) (by omega)
  rw [Nat.zero_mul, part_zero] at this
  exact this

/-- Two words as one number. -/
def wv (h l : Int) : Int := h * 18446744073709551616 + l
/-- A power of two, as a whole number. -/
def p2 (n : Int) : Int := 2 ^ n.toNat
theorem p2_pos (n : Int) : 0 < p2 n := Int.pow_pos (by decide)
theorem p2_add {a b : Int} (ha : 0 ≤ a) (hb : 0 ≤ b) : p2 (a + b) = p2 a * p2 b := by
  unfold p2
  rw [Int.toNat_add ha hb, Int.pow_add]
theorem p2_0 : p2 0 = 1 := rfl
theorem p2_1 : p2 1 = 2 := rfl
theorem p2_64 : p2 64 = 18446744073709551616 := by decide
theorem p2_128 : p2 128 = 340282366920938463463374607431768211456 := by decide
theorem p2_le {a b : Int} (h : a ≤ b) : p2 a ≤ p2 b := by
  unfold p2
  have : a.toNat ≤ b.toNat := by omega
  exact_mod_cast Nat.pow_le_pow_right (by decide : 0 < 2) this
theorem p2_succ {a : Int} (h : 0 ≤ a) : p2 (a + 1) = 2 * p2 a := by rw [p2_add h (by decide), p2_1, Int.mul_comm]
theorem p2_neg {a : Int} (h : a ≤ 0) : p2 a = 1 := by unfold p2; rw [show a.toNat = 0 from by omega]; rfl
theorem pw_p2 {a : Int} (h : 0 ≤ a) : pw a = (p2 a : Rat) := by
  obtain ⟨n, rfl⟩ := Int.eq_ofNat_of_zero_le h
  rw [pw_nat]
  rfl

theorem wv_range {h l : Int} (hh : U h) (hl : U l) : 0 ≤ wv h l ∧ wv h l < 340282366920938463463374607431768211456 := by
  obtain ⟨a, b⟩ := hh; obtain ⟨c, d⟩ := hl; unfold wv; omega
theorem wv_inj {h l h' l' : Int} (hh : U h) (hl : U l) (hh' : U h') (hl' : U l') (e : wv h l = wv h' l') : h = h' ∧ l = l' := by
  obtain ⟨a, b⟩ := hh; obtain ⟨c, d⟩ := hl; obtain ⟨a', b'⟩ := hh'; obtain ⟨c', d'⟩ := hl'; unfold wv at e; omega

theorem shl_u64 {x n : Int} (hn : 0 ≤ n) (hn' : n ≤ 64) : shl .u64 x n = x * p2 n % 18446744073709551616 := by
  unfold shl p2
  rw [wu64_mod, show min n.toNat (IntKind.bits .u64) = n.toNat from Nat.min_eq_left (by simp [IntKind.bits]; omega)]
theorem shr_u64 {x n : Int} (hn : 0 ≤ n) (hn' : n ≤ 64) : shr .u64 x n = x / p2 n := by
  unfold shr p2
  rw [show min n.toNat (IntKind.bits .u64) = n.toNat from Nat.min_eq_left (by simp [IntKind.bits]; omega)]

theorem wide_Zero_eq {h l : Int} (hh : U h) (hl : U l) : wide_Wide_Zero.f h l = some (decide (wv h l = 0)) := by
  unfold wide_Wide_Zero.f
  rw [u64_or_zero hh.1 hh.2 hl.1 hl.2]
  congr 1
  rw [Bool.eq_iff_iff]
  obtain ⟨a, b⟩ := hh; obtain ⟨c, d⟩ := hl
  unfold wv
  simp
  omega

/-- What lies in two words below and above a cut at n bits. -/
theorem part_lt {x P Q : Int} (hx : U x) (hP : 0 < P) (hQ : 0 < Q) (h : P * Q = 18446744073709551616) : 0 ≤ x / Q ∧ x / Q < P ∧ 0 ≤ x % Q ∧ x % Q < Q ∧ x = x / Q * Q + x % Q := by
  obtain ⟨h0, h1⟩ := hx
  have e := Int.mul_ediv_add_emod x Q
  have r0 := Int.emod_nonneg x (Int.ne_of_gt hQ)
  have r1 := Int.emod_lt_of_pos x hQ
  refine ⟨Int.ediv_nonneg h0 (Int.le_of_lt hQ), ?_, r0, r1, by rw [Int.mul_comm]; exact e.symm⟩
  exact Int.ediv_lt_of_lt_mul hQ (by rw [h]; exact h1)

theorem mul_mod_cut {x P Q : Int} (hx : U x) (hP : 0 < P) (hQ : 0 < Q) (h : P * Q = 18446744073709551616) : x * P % 18446744073709551616 = x % Q * P ∧ 0 ≤ x % Q * P ∧ x % Q * P ≤ 18446744073709551616 - P := by
  obtain ⟨a0, a1, b0, b1, e⟩ := part_lt hx hP hQ h
  have h2 : 0 ≤ x % Q * P := Int.mul_nonneg b0 (Int.le_of_lt hP)
  have h3 : x % Q * P ≤ 18446744073709551616 - P := by
    have : x % Q * P ≤ (Q - 1) * P := Int.mul_le_mul_of_nonneg_right (by omega) (Int.le_of_lt hP)
    have e2 : (Q - 1) * P = 18446744073709551616 - P := by rw [← h]; grind
    omega
  refine ⟨?_, h2, h3⟩
  have e3 : x * P = x / Q * 18446744073709551616 + x % Q * P := by
    rw [← h]; generalize x / Q = A at *; generalize x % Q = B at *; subst e; grind
  rw [e3]
  omega

theorem wide_Left_eq {h l n : Int} (hh : U h) (hl : U l) (hn : n ≤ 4611686018427387904) : ∃ h' l', wide_Wide_Left.f h l n = some (h', l') ∧ U h' ∧ U l' ∧ wv h' l' = wv h l * p2 n % 340282366920938463463374607431768211456 := by
  have hv := wv_range hh hl
  unfold wide_Wide_Left.f
  by_cases h1 : n ≤ 0
  · rw [if_pos h1]
    refine ⟨h, l, rfl, hh, hl, ?_⟩
    rw [p2_neg h1]
    omega
  · rw [if_neg h1]
    by_cases h2 : n ≥ 128
    · rw [if_pos h2]
      refine ⟨0, 0, rfl, ⟨by decide, by decide⟩, ⟨by decide, by decide⟩, ?_⟩
      have e : p2 n = p2 128 * p2 (n - 128) := by rw [← p2_add (by omega) (by omega)]; congr 1; omega
      rw [e, p2_128]
      have : wv h l * (340282366920938463463374607431768211456 * p2 (n - 128)) = 340282366920938463463374607431768211456 * (wv h l * p2 (n - 128)) := by grind
      rw [this, Int.mul_emod_right]
      rfl
    · rw [if_neg h2]
      by_cases h3 : n ≥ 64
      · rw [if_pos h3, w64 (by omega) (by omega), if_pos (by omega), shl_u64 (by omega) (by omega)]
        refine ⟨_, _, rfl, ⟨by omega, by omega⟩, ⟨by decide, by decide⟩, ?_⟩
        have e : p2 n = 18446744073709551616 * p2 (n - 64) := by rw [← p2_64, ← p2_add (by omega) (by omega)]; congr 1; omega
        rw [e]
        have e2 : wv h l * (18446744073709551616 * p2 (n - 64)) = 340282366920938463463374607431768211456 * (h * p2 (n - 64)) + (l * p2 (n - 64)) * 18446744073709551616 := by unfold wv; grind
        rw [e2]
        generalize h * p2 (n - 64) = X
        generalize l * p2 (n - 64) = Y
        unfold wv
        omega
      · rw [if_neg h3, if_pos (by omega), w64 (by omega) (by omega), if_pos (by omega), shl_u64 (by omega) (by omega), shl_u64 (by omega) (by omega), shr_u64 (by omega) (by omega)]
        have hP := p2_pos n
        have hQ := p2_pos (64 - n)
        have hPQ : p2 n * p2 (64 - n) = 18446744073709551616 := by rw [← p2_64, ← p2_add (by omega) (by omega)]; congr 1; omega
        obtain ⟨c0, c1, d0, d1, el⟩ := part_lt hl hP hQ hPQ
        obtain ⟨a0, a1, b0, b1, eh⟩ := part_lt hh hP hQ hPQ
        obtain ⟨mh, mh0, mh1⟩ := mul_mod_cut hh hP hQ hPQ
        obtain ⟨ml, ml0, ml1⟩ := mul_mod_cut hl hP hQ hPQ
        rw [mh, ml]
        have hmod : h % p2 (64 - n) * p2 n % 2 ^ n.toNat = 0 := by
          show h % p2 (64 - n) * p2 n % p2 n = 0
          exact Int.mul_emod_left _ _
        rw [u64_or n.toNat mh0 hmod (by omega) c0 c1 (by omega)]
        refine ⟨_, _, rfl, ⟨by omega, by omega⟩, ⟨by omega, by omega⟩, ?_⟩
        have e : wv h l * p2 n = h / p2 (64 - n) * 340282366920938463463374607431768211456 + wv (h % p2 (64 - n) * p2 n + l / p2 (64 - n)) (l % p2 (64 - n) * p2 n) := by
          unfold wv
          generalize h / p2 (64 - n) = A at *
          generalize h % p2 (64 - n) = B at *
          generalize l / p2 (64 - n) = C at *
          generalize l % p2 (64 - n) = D at *
          generalize p2 n = P at *
          generalize p2 (64 - n) = Q at *
          subst eh el
          have : (340282366920938463463374607431768211456 : Int) = P * Q * (P * Q) := by rw [hPQ]; decide
          rw [this, ← hPQ]
          grind
        rw [e]
        have hr := wv_range (h := h % p2 (64 - n) * p2 n + l / p2 (64 - n)) (l := l % p2 (64 - n) * p2 n) ⟨by omega, by omega⟩ ⟨by omega, by omega⟩
        omega

theorem cut_div {v P : Int} (hP : 0 < P) : v / P * P = v - v % P := by have := Int.mul_ediv_add_emod v P; rw [Int.mul_comm] at this; omega
/-- Times 2^n, less than 2^128. -/
theorem wide_Left_small {h l n : Int} (hh : U h) (hl : U l) (hn : n ≤ 4611686018427387904) (hs : wv h l * p2 n < 340282366920938463463374607431768211456) : ∃ h' l', wide_Wide_Left.f h l n = some (h', l') ∧ U h' ∧ U l' ∧ wv h' l' = wv h l * p2 n := by
  obtain ⟨h', l', e, u1, u2, ev⟩ := wide_Left_eq hh hl hn
  refine ⟨h', l', e, u1, u2, ?_⟩
  rw [ev, Int.emod_eq_of_lt (Int.mul_nonneg (wv_range hh hl).1 (Int.le_of_lt (p2_pos n))) hs]

theorem right_tail {h l n oh ol : Int} (hh : U h) (hl : U l) (ho : U oh) (ho' : U ol) (h1 : ¬ n ≤ 0) (hn : n ≤ 4611686018427387904) (ev : wv oh ol = wv h l / p2 n) :
    Ev (fun k => wide_Wide_Right.j0 k n h l oh ol) (oh, ol, decide (wv h l % p2 n ≠ 0)) := by
  have hv := wv_range hh hl
  have hP := p2_pos n
  have hr0 := Int.emod_nonneg (wv h l) (Int.ne_of_gt hP)
  have hc := cut_div (v := wv h l) hP
  have hle : wv oh ol * p2 n < 340282366920938463463374607431768211456 := by rw [ev, hc]; omega
  obtain ⟨h', l', e, u1, u2, ev2⟩ := wide_Left_small ho ho' hn hle
  refine Ev.succ ?_
  simp only [wide_Wide_Right.j0]
  refine Ev.call e ?_
  dsimp only
  rw [ev, hc] at ev2
  by_cases hz : wv h l % p2 n = 0
  · have ee := wv_inj u1 u2 hh hl (by rw [ev2, hz]; omega)
    obtain ⟨rfl, rfl⟩ := ee
    refine Ev.neg (by simp) ?_
    rw [show decide (wv h' l' % p2 n ≠ 0) = false from by simp [hz]]
    by_cases h2 : n ≥ 128
    · refine Ev.pos h2 (Ev.call (wide_Zero_eq hh hl) ?_)
      have : wv h' l' = 0 := by
        have := Int.emod_eq_of_lt hv.1 (show wv h' l' < p2 n from by have := p2_le h2; rw [p2_128] at this; omega)
        omega
      rw [decide_eq_true this]
      exact Ev.now _
    · exact Ev.neg h2 (Ev.now _)
  · refine Ev.pos ?_ ?_
    · by_cases hc1 : h' = h
      · by_cases hc2 : l' = l
        · subst hc1 hc2; omega
        · simp [hc2]
      · simp [hc1]
    · rw [show decide (wv h l % p2 n ≠ 0) = true from by simp [hz]]
      exact Ev.now _
theorem wide_Right_ev {h l n : Int} (hh : U h) (hl : U l) (hn : n ≤ 4611686018427387904) : ∃ h' l', Ev (fun k => wide_Wide_Right.f k h l n) (h', l', decide (wv h l % p2 n ≠ 0)) ∧ U h' ∧ U l' ∧ wv h' l' = wv h l / p2 n := by
  have hv := wv_range hh hl
  unfold wide_Wide_Right.f
  by_cases h1 : n ≤ 0
  · rw [p2_neg h1]
    refine ⟨h, l, ?_, hh, hl, by omega⟩
    rw [show decide (wv h l % 1 ≠ 0) = false from by simp]
    exact Ev.pos h1 (Ev.now _)
  · by_cases h2 : n ≥ 128
    · have e0 : wv 0 0 = wv h l / p2 n := by
        have : wv h l < p2 n := by have := p2_le h2; rw [p2_128] at this; omega
        rw [Int.ediv_eq_zero_of_lt hv.1 this]; rfl
      have u0 : U 0 := ⟨by decide, by decide⟩
      exact ⟨0, 0, Ev.neg h1 (Ev.pos h2 (right_tail hh hl u0 u0 h1 hn e0)), u0, u0, e0⟩
    · by_cases h3 : n ≥ 64
      · have u0 : U 0 := ⟨by decide, by decide⟩
        have hP := p2_pos (n - 64)
        have hh' := hh
        obtain ⟨x0, x1⟩ := hh
        have u1 : U (h / p2 (n - 64)) := ⟨Int.ediv_nonneg x0 (Int.le_of_lt hP), by have := Int.ediv_le_self (p2 (n - 64)) x0; omega⟩
        have e0 : wv 0 (h / p2 (n - 64)) = wv h l / p2 n := by
          have e : p2 n = 18446744073709551616 * p2 (n - 64) := by rw [← p2_64, ← p2_add (by omega) (by omega)]; congr 1; omega
          have e3 : wv h l / 18446744073709551616 = h := by obtain ⟨y0, y1⟩ := hl; unfold wv; omega
          rw [e, ← Int.ediv_ediv_of_nonneg (by decide), e3]
          unfold wv; omega
        refine ⟨0, h / p2 (n - 64), Ev.neg h1 (Ev.neg h2 (Ev.pos h3 ?_)), u0, u1, e0⟩
        rw [w64 (by omega) (by omega), shr_u64 (by omega) (by omega)]
        exact Ev.pos (by omega) (right_tail hh' hl u0 u1 h1 hn e0)
      · have hP := p2_pos n
        have hQ := p2_pos (64 - n)
        have hQP : p2 (64 - n) * p2 n = 18446744073709551616 := by rw [← p2_64, ← p2_add (by omega) (by omega)]; congr 1; omega
        obtain ⟨c0, c1, d0, d1, el⟩ := part_lt hl hQ hP hQP
        obtain ⟨a0, a1, b0, b1, eh⟩ := part_lt hh hQ hP hQP
        obtain ⟨mh, mh0, mh1⟩ := mul_mod_cut hh hQ hP hQP
        have hP1 : 1 ≤ p2 n := hP
        have hQ1 : p2 (64 - n) ≤ 18446744073709551616 := by rw [← p2_64]; exact p2_le (by omega)
        have u1 : U (h / p2 n) := ⟨a0, by omega⟩
        have u2 : U (h % p2 n * p2 (64 - n) + l / p2 n) := ⟨by omega, by omega⟩
        have e0 : wv (h / p2 n) (h % p2 n * p2 (64 - n) + l / p2 n) = wv h l / p2 n := by
          have e1 : wv h l = wv (h / p2 n) (h % p2 n * p2 (64 - n) + l / p2 n) * p2 n + l % p2 n := by
            unfold wv
            generalize h / p2 n = A at *
            generalize h % p2 n = B at *
            generalize l / p2 n = C at *
            generalize l % p2 n = D at *
            generalize p2 n = P at *
            generalize p2 (64 - n) = Q at *
            subst eh el
            rw [← hQP]
            grind
          rw [e1, Int.add_comm _ (l % p2 n), Int.add_mul_ediv_right _ _ (Int.ne_of_gt hP), Int.ediv_eq_zero_of_lt d0 d1, Int.zero_add]
        refine ⟨_, _, Ev.neg h1 (Ev.neg h2 (Ev.neg h3 (Ev.pos (by omega) ?_))), u1, u2, e0⟩
        rw [w64 (by omega) (by omega), shr_u64 (by omega) (by omega), shl_u64 (by omega) (by omega), shr_u64 (by omega) (by omega), mh]
        have hmod : h % p2 n * p2 (64 - n) % 2 ^ (64 - n).toNat = 0 := by
          show h % p2 n * p2 (64 - n) % p2 (64 - n) = 0
          exact Int.mul_emod_left _ _
        rw [u64_or (64 - n).toNat mh0 hmod (by omega) c0 c1 (by omega)]
        exact Ev.pos (by omega) (right_tail hh hl u1 u2 h1 hn e0)

theorem wide_Add_eq {h l h' l' : Int} (hh : U h) (hl : U l) (hh' : U h') (hl' : U l') : ∃ a b, wide_Wide_Add.f h l h' l' = some (a, b, decide (340282366920938463463374607431768211456 ≤ wv h l + wv h' l')) ∧ U a ∧ U b ∧ wv a b = (wv h l + wv h' l') % 340282366920938463463374607431768211456 := by
  obtain ⟨x0, x1⟩ := hh; obtain ⟨x2, x3⟩ := hl; obtain ⟨x4, x5⟩ := hh'; obtain ⟨x6, x7⟩ := hl'
  unfold wide_Wide_Add.f bits_Add64.f
  rw [if_pos x2, if_pos x6, if_pos (by decide), if_pos (by decide)]
  simp only [Option.bind_some]
  rw [if_pos x0, if_pos x4, if_pos (by omega), if_pos (by omega)]
  simp only [Option.bind_some]
  refine ⟨_, _, congrArg some (Prod.ext rfl (Prod.ext rfl ?_)), ⟨by omega, by omega⟩, ⟨by omega, by omega⟩, ?_⟩
  · rw [Bool.eq_iff_iff]
    unfold wv
    simp
    omega
  · unfold wv
    omega

/-- How many bits a whole number has. -/
def blen (x : Int) : Int := if x ≤ 0 then 0 else (Nat.log2 x.toNat : Int) + 1
theorem blen_pos {x : Int} (h : 0 < x) : 1 ≤ blen x ∧ p2 (blen x - 1) ≤ x ∧ x < p2 (blen x) := by
  unfold blen p2
  rw [if_neg (by omega)]
  obtain ⟨n, rfl⟩ := Int.eq_ofNat_of_zero_le (Int.le_of_lt h)
  have hn : n ≠ 0 := by omega
  have h1 := Nat.log2_self_le hn
  have h2 := Nat.lt_log2_self (n := n)
  simp only [Int.toNat_natCast]
  refine ⟨by omega, ?_, ?_⟩
  · rw [show ((n.log2 : Int) + 1 - 1).toNat = n.log2 from by omega]; exact_mod_cast h1
  · rw [show ((n.log2 : Int) + 1).toNat = n.log2 + 1 from by omega]; exact_mod_cast h2
theorem blen_nonneg (x : Int) : 0 ≤ blen x := by unfold blen; split <;> omega
theorem blen_unique {x L : Int} (hL : 1 ≤ L) (h1 : p2 (L - 1) ≤ x) (h2 : x < p2 L) : blen x = L := by
  have hx : 0 < x := by have := p2_pos (L - 1); omega
  obtain ⟨b0, b1, b2⟩ := blen_pos hx
  have h3 : ¬ blen x < L := fun hc => by have := p2_le (show blen x ≤ L - 1 from by omega); omega
  have h4 : ¬ L < blen x := fun hc => by have := p2_le (show L ≤ blen x - 1 from by omega); omega
  omega
theorem blen_shift {x s : Int} (hs : 0 ≤ s) (hx : p2 s ≤ x) : blen x = s + blen (x / p2 s) := by
  have hP := p2_pos s
  have hq : 0 < x / p2 s := by have := Int.le_ediv_of_mul_le hP (show 1 * p2 s ≤ x from by omega); omega
  obtain ⟨b0, b1, b2⟩ := blen_pos hq
  have e := Int.mul_ediv_add_emod x (p2 s)
  have r0 := Int.emod_nonneg x (Int.ne_of_gt hP)
  have r1 := Int.emod_lt_of_pos x hP
  refine blen_unique (by omega) ?_ ?_
  · have : p2 (s + blen (x / p2 s) - 1) = p2 s * p2 (blen (x / p2 s) - 1) := by rw [← p2_add hs (by omega)]; congr 1; omega
    rw [this]
    have := Int.mul_le_mul_of_nonneg_left b1 (Int.le_of_lt hP)
    omega
  · rw [p2_add hs (by omega)]
    have : p2 s * (x / p2 s + 1) ≤ p2 s * p2 (blen (x / p2 s)) := Int.mul_le_mul_of_nonneg_left b2 (Int.le_of_lt hP)
    have e2 : p2 s * (x / p2 s + 1) = p2 s * (x / p2 s) + p2 s := by grind
    omega
theorem blen_le {x L : Int} (hL : 0 ≤ L) (h : x < p2 L) : blen x ≤ L := by
  by_cases hx : 0 < x
  · obtain ⟨b0, b1, b2⟩ := blen_pos hx
    exact Int.not_lt.mp (fun hc => by have := p2_le (show L ≤ blen x - 1 from by omega); omega)
  · unfold blen; rw [if_pos (by omega)]; exact hL
theorem blen_tab : ∀ i : Fin 256, bt (⟨#[0, 1, 2, 2, 3, 3, 3, 3, 4, 4, 4, 4, 4, 4, 4, 4, 5, 5, 5, 5, 5, 5, 5, 5, 5, 5, 5, 5, 5, 5, 5, 5, 6, 6, 6, 6, 6, 6, 6, 6, 6, 6, 6, 6, 6, 6, 6, 6, 6, 6, 6, 6, 6, 6, 6, 6, 6, 6, 6, 6, 6, 6, 6, 6, 7, 7, 7, 7, 7, 7, 7, 7, 7, 7, 7, 7, 7, 7, 7, 7, 7, 7, 7, 7, 7, 7, 7, 7, 7, 7, 7, 7, 7, 7, 7, 7, 7, 7, 7, 7, 7, 7, 7, 7, 7, 7, 7, 7, 7, 7, 7, 7, 7, 7, 7, 7, 7, 7, 7, 7, 7, 7, 7, 7, 7, 7, 7, 7, 8, 8, 8, 8, 8, 8, 8, 8, 8, 8, 8, 8, 8, 8, 8, 8, 8, 8, 8, 8, 8, 8, 8, 8, 8, 8, 8, 8, 8, 8, 8, 8, 8, 8, 8, 8, 8, 8, 8, 8, 8, 8, 8, 8, 8, 8, 8, 8, 8, 8, 8, 8, 8, 8, 8, 8, 8, 8, 8, 8, 8, 8, 8, 8, 8, 8, 8, 8, 8, 8, 8, 8, 8, 8, 8, 8, 8, 8, 8, 8, 8, 8, 8, 8, 8, 8, 8, 8, 8, 8, 8, 8, 8, 8, 8, 8, 8, 8, 8, 8, 8, 8, 8, 8, 8, 8, 8, 8, 8, 8, 8, 8, 8, 8, 8, 8, 8, 8, 8, 8, 8, 8, 8, 8, 8, 8, 8, 8]⟩ : ByteArray) (i.val : Int) = blen (i.val : Int) := by decide +kernel
theorem blen_tab_eq {i : Int} (h0 : 0 ≤ i) (h1 : i < 256) : bt (⟨#[0, 1, 2, 2, 3, 3, 3, 3, 4, 4, 4, 4, 4, 4, 4, 4, 5, 5, 5, 5, 5, 5, 5, 5, 5, 5, 5, 5, 5, 5, 5, 5, 6, 6, 6, 6, 6, 6, 6, 6, 6, 6, 6, 6, 6, 6, 6, 6, 6, 6, 6, 6, 6, 6, 6, 6, 6, 6, 6, 6, 6, 6, 6, 6, 7, 7, 7, 7, 7, 7, 7, 7, 7, 7, 7, 7, 7, 7, 7, 7, 7, 7, 7, 7, 7, 7, 7, 7, 7, 7, 7, 7, 7, 7, 7, 7, 7, 7, 7, 7, 7, 7, 7, 7, 7, 7, 7, 7, 7, 7, 7, 7, 7, 7, 7, 7, 7, 7, 7, 7, 7, 7, 7, 7, 7, 7, 7, 7, 8, 8, 8, 8, 8, 8, 8, 8, 8, 8, 8, 8, 8, 8, 8, 8, 8, 8, 8, 8, 8, 8, 8, 8, 8, 8, 8, 8, 8, 8, 8, 8, 8, 8, 8, 8, 8, 8, 8, 8, 8, 8, 8, 8, 8, 8, 8, 8, 8, 8, 8, 8, 8, 8, 8, 8, 8, 8, 8, 8, 8, 8, 8, 8, 8, 8, 8, 8, 8, 8, 8, 8, 8, 8, 8, 8, 8, 8, 8, 8, 8, 8, 8, 8, 8, 8, 8, 8, 8, 8, 8, 8, 8, 8, 8, 8, 8, 8, 8, 8, 8, 8, 8, 8, 8, 8, 8, 8, 8, 8, 8, 8, 8, 8, 8, 8, 8, 8, 8, 8, 8, 8, 8, 8, 8, 8, 8, 8]⟩ : ByteArray) i = blen i := by
  obtain ⟨n, rfl⟩ := Int.eq_ofNat_of_zero_le h0
  exact blen_tab ⟨n, by omega⟩
set_option maxRecDepth 100000 in
theorem bits_Len64_j0 {x s : Int} (h0 : 0 ≤ x) (h1 : x < 4294967296) (hs : 0 ≤ s) (hs' : s ≤ 64) : Ev (fun k => bits_Len64.j0 k x s) (s + blen x) := by
  refine Ev.succ ?_
  simp only [bits_Len64.j0]
  have q16 : p2 16 = 65536 := by decide
  have q8 : p2 8 = 256 := by decide
  by_cases c1 : x ≥ 65536
  · refine Ev.pos c1 ?_
    have e1 : blen x = 16 + blen (x / 65536) := by rw [← q16]; exact blen_shift (by decide) (by rw [q16]; exact c1)
    by_cases c2 : x / 65536 ≥ 256
    · refine Ev.pos c2 (Ev.pos (by omega) (Ev.pos (by omega) ?_))
      have e2 : blen (x / 65536) = 8 + blen (x / 65536 / 256) := by rw [← q8]; exact blen_shift (by decide) (by rw [q8]; exact c2)
      rw [blen_tab_eq (by omega) (by omega), show x / 65536 / 256 % 256 = x / 65536 / 256 from by omega]
      have b1 := blen_nonneg (x / 65536 / 256)
      have b2 : blen (x / 65536 / 256) ≤ 8 := blen_le (by decide) (by rw [q8]; omega)
      rw [w64 (x := blen _) (by omega) (by omega), w64 (x := s + 16) (by omega) (by omega), w64 (x := s + 16 + 8) (by omega) (by omega), w64 (by omega) (by omega), e1, e2]
      rw [show s + 16 + 8 + blen (x / 65536 / 256) = s + (16 + (8 + blen (x / 65536 / 256))) from by omega]
      exact Ev.now _
    · refine Ev.neg c2 (Ev.pos (by omega) (Ev.pos (by omega) ?_))
      rw [blen_tab_eq (by omega) (by omega), show x / 65536 % 256 = x / 65536 from by omega]
      have b1 := blen_nonneg (x / 65536)
      have b2 : blen (x / 65536) ≤ 8 := blen_le (by decide) (by rw [q8]; omega)
      rw [w64 (x := blen _) (by omega) (by omega), w64 (x := s + 16) (by omega) (by omega), w64 (by omega) (by omega), e1]
      rw [show s + 16 + blen (x / 65536) = s + (16 + blen (x / 65536)) from by omega]
      exact Ev.now _
  · refine Ev.neg c1 ?_
    by_cases c2 : x ≥ 256
    · refine Ev.pos c2 (Ev.pos (by omega) (Ev.pos (by omega) ?_))
      have e2 : blen x = 8 + blen (x / 256) := by rw [← q8]; exact blen_shift (by decide) (by rw [q8]; exact c2)
      rw [blen_tab_eq (by omega) (by omega), show x / 256 % 256 = x / 256 from by omega]
      have b1 := blen_nonneg (x / 256)
      have b2 : blen (x / 256) ≤ 8 := blen_le (by decide) (by rw [q8]; omega)
      rw [w64 (x := blen _) (by omega) (by omega), w64 (x := s + 8) (by omega) (by omega), w64 (by omega) (by omega), e2]
      rw [show s + 8 + blen (x / 256) = s + (8 + blen (x / 256)) from by omega]
      exact Ev.now _
    · refine Ev.neg c2 (Ev.pos (by omega) (Ev.pos (by omega) ?_))
      rw [blen_tab_eq (by omega) (by omega), show x % 256 = x from by omega]
      have b1 := blen_nonneg x
      have b2 : blen x ≤ 8 := blen_le (by decide) (by rw [q8]; omega)
      rw [w64 (x := blen _) (by omega) (by omega), w64 (by omega) (by omega)]
      exact Ev.now _
theorem bits_Len64_ev {x : Int} (h : U x) : Ev (fun k => bits_Len64.f k x) (blen x) := by
  obtain ⟨h0, h1⟩ := h
  unfold bits_Len64.f
  have q32 : p2 32 = 4294967296 := by decide
  by_cases c1 : x ≥ 4294967296
  · have e1 : blen x = 32 + blen (x / 4294967296) := by rw [← q32]; exact blen_shift (by decide) (by rw [q32]; exact c1)
    rw [e1]
    exact Ev.pos c1 (bits_Len64_j0 (by omega) (by omega) (by decide) (by decide))
  · have := bits_Len64_j0 (x := x) (s := 0) h0 (by omega) (by decide) (by decide)
    rw [Int.zero_add] at this
    exact Ev.neg c1 this
theorem wide_Len_ev {h l : Int} (hh : U h) (hl : U l) : Ev (fun k => wide_Wide_Len.f k h l) (blen (wv h l)) := by
  unfold wide_Wide_Len.f
  have hx := hh
  obtain ⟨x0, x1⟩ := hh
  have hy := hl
  obtain ⟨y0, y1⟩ := hl
  by_cases c : h = 0
  · subst c
    rw [show wv 0 l = l from by unfold wv; omega]
    exact Ev.pos rfl (Ev.bind (bits_Len64_ev hy) (Ev.now _))
  · refine Ev.neg c (Ev.bind (bits_Len64_ev hx) ?_)
    have e1 : blen (wv h l) = 64 + blen (wv h l / 18446744073709551616) := by
      rw [← p2_64]; exact blen_shift (by decide) (by rw [p2_64]; unfold wv; omega)
    have e2 : wv h l / 18446744073709551616 = h := by unfold wv; omega
    have b1 := blen_nonneg h
    have b2 : blen h ≤ 64 := blen_le (by decide) (by rw [p2_64]; omega)
    rw [e1, e2, w64 (by omega) (by omega)]
    exact Ev.now _
theorem blen_wv_le {h l : Int} (hh : U h) (hl : U l) : blen (wv h l) ≤ 128 := blen_le (by decide) (by rw [p2_128]; exact (wv_range hh hl).2)

theorem u8_or_1 : bits .or .u8 0 1 = 1 := by decide
theorem u8_or_2 : bits .or .u8 1 2 = 3 := by decide
/-- The flags' first half. -/
def fl (lost tiny : Bool) : Int := if lost then (if tiny then 3 else 1) else 0

theorem round_j6 (neg tiny lost : Bool) {q n : Int} (hq : -1074 ≤ q) (hq' : q ≤ 1000000) (hn : 0 ≤ n) (h1 : n < 9007199254740992) (h2 : q = -1074 ∨ 4503599627370496 ≤ n)
    (ht : tiny = true → enc q n < INF) :
    Ev (fun k => round_Round.j6 k neg q n (fl lost tiny)) (signed neg (if enc q n < INF then enc q n else INF), if enc q n < INF then fl lost tiny else 5) := by
  refine Ev.succ ?_
  simp only [round_Round.j6]
  have hU : U n := ⟨hn, by omega⟩
  have U0 : U 0 := ⟨by decide, by decide⟩
  by_cases ha : n < 4503599627370496
  · obtain rfl : q = -1074 := by omega
    have e : enc (-1074) n = n := by unfold enc; omega
    have hI : n < INF := by unfold INF; omega
    rw [e]
    simp only [if_pos hI]
    refine Ev.pos ha (Ev.call (word_Make_eq neg (by decide) (by decide) hU) ?_)
    rw [show (0 : Int) * 4503599627370496 + n % 4503599627370496 = n from by omega]
    exact Ev.now _
  · refine Ev.neg ha ?_
    rw [w64 (x := q + 1075) (by omega) (by omega)]
    by_cases hb : q + 1075 ≥ 2047
    · have e : ¬ enc q n < INF := by unfold enc INF; omega
      simp only [if_neg e]
      refine Ev.pos hb (Ev.call (word_Make_eq neg (by decide) (by decide) U0) ?_)
      have ht' : tiny = false := by
        cases tiny
        · rfl
        · exact absurd (ht rfl) e
      subst ht'
      have e2 : bits .or .u8 (bits .or .u8 (fl lost false) 4) 1 = 5 := by cases lost <;> decide
      rw [e2, show (2047 : Int) * 4503599627370496 + 0 % 4503599627370496 = INF from by decide]
      exact Ev.now _
    · have e : enc q n < INF := by unfold enc INF; omega
      simp only [if_pos e]
      refine Ev.neg hb (Ev.call (word_Make_eq neg (by omega) (by omega) hU) ?_)
      rw [show (q + 1075) * 4503599627370496 + n % 4503599627370496 = enc q n from by unfold enc; omega]
      exact Ev.now _

theorem round_j4 (neg tiny lost : Bool) {E d q n hi : Int} (hE : -1000000 ≤ E) (hE' : E ≤ 1000000) (hd : -1000000 ≤ d) (hd' : d ≤ 1000000) (hqe : E + d = q) (hq : -1074 ≤ q) (hq' : q ≤ 200000) (hn : 0 ≤ n) (h1 : n ≤ 9007199254740992) (h2 : q = -1074 ∨ 4503599627370496 ≤ n)
    (ht : tiny = true → enc q n < INF) :
    Ev (fun k => round_Round.j4 k neg E d tiny lost hi n) (signed neg (if enc q n < INF then enc q n else INF), if enc q n < INF then fl lost tiny else 5) := by
  have j5 : ∀ q' n', -1074 ≤ q' → q' ≤ 1000000 → 0 ≤ n' → n' < 9007199254740992 → (q' = -1074 ∨ 4503599627370496 ≤ n') → enc q' n' = enc q n →
      Ev (fun k => round_Round.j5 k neg q' tiny lost n') (signed neg (if enc q n < INF then enc q n else INF), if enc q n < INF then fl lost tiny else 5) := by
    intro q' n' a b c d' e f
    refine Ev.succ ?_
    simp only [round_Round.j5]
    have h6 := round_j6 neg tiny lost a b c d' e (by rw [f]; exact ht)
    rw [f] at h6
    cases lost
    · refine Ev.neg (by decide) ?_
      exact h6
    · refine Ev.pos rfl ?_
      cases tiny
      · refine Ev.neg (by decide) ?_
        rw [u8_or_1]; exact h6
      · refine Ev.pos rfl ?_
        rw [u8_or_1, u8_or_2]; exact h6
  refine Ev.succ ?_
  simp only [round_Round.j4]
  rw [w64 (x := E + d) (by omega) (by omega), hqe]
  by_cases ha : n = 9007199254740992
  · subst ha
    refine Ev.pos rfl ?_
    rw [w64 (x := q + 1) (by omega) (by omega)]
    exact j5 (q + 1) _ (by omega) (by omega) (by decide) (by decide) (.inr (by decide)) (by unfold enc; omega)
  · exact Ev.neg ha (j5 q n hq (by omega) hn (by omega) h2 rfl)

/-- One half of the last place, and what lies beneath. -/
theorem half_rest {W d : Int} (hW : 0 ≤ W) (hd : 0 < d) : (W / p2 (d - 1)) % 2 = (if p2 d ≤ 2 * (W % p2 d) then 1 else 0) ∧ W % p2 (d - 1) = (if p2 d ≤ 2 * (W % p2 d) then W % p2 d - p2 (d - 1) else W % p2 d) := by
  have hP := p2_pos (d - 1)
  have e : p2 d = 2 * p2 (d - 1) := by rw [← p2_succ (by omega)]; congr 1; omega
  have m1 := Int.mul_ediv_add_emod W (p2 (d - 1))
  have r0 := Int.emod_nonneg W (Int.ne_of_gt hP)
  have r1 := Int.emod_lt_of_pos W hP
  have hD := p2_pos d
  have m2 := Int.mul_ediv_add_emod W (p2 d)
  have s0 := Int.emod_nonneg W (Int.ne_of_gt hD)
  have s1 := Int.emod_lt_of_pos W hD
  have key : W % p2 d = (W / p2 (d - 1) % 2) * p2 (d - 1) + W % p2 (d - 1) := by
    have h2 : W / p2 (d - 1) = 2 * (W / p2 (d - 1) / 2) + W / p2 (d - 1) % 2 := by omega
    have h3 : W = (W / p2 (d - 1) % 2 * p2 (d - 1) + W % p2 (d - 1)) + p2 d * (W / p2 (d - 1) / 2) := by
      rw [e]
      generalize W / p2 (d - 1) / 2 = X at *
      generalize W / p2 (d - 1) % 2 = Y at *
      rw [h2] at m1
      grind
    have hb : 0 ≤ W / p2 (d - 1) % 2 ∧ W / p2 (d - 1) % 2 ≤ 1 := by omega
    have hb2 : W / p2 (d - 1) % 2 * p2 (d - 1) ≤ 1 * p2 (d - 1) := Int.mul_le_mul_of_nonneg_right hb.2 (Int.le_of_lt hP)
    have hb3 : 0 ≤ W / p2 (d - 1) % 2 * p2 (d - 1) := Int.mul_nonneg hb.1 (Int.le_of_lt hP)
    have := Int.add_mul_emod_self_left (W / p2 (d - 1) % 2 * p2 (d - 1) + W % p2 (d - 1)) (p2 d) (W / p2 (d - 1) / 2)
    rw [← h3] at this
    rw [this]
    exact Int.emod_eq_of_lt (by omega) (by omega)
  rcases (show W / p2 (d - 1) % 2 = 0 ∨ W / p2 (d - 1) % 2 = 1 from by omega) with hb | hb
  · rw [hb] at key
    rw [hb, if_neg (by omega), if_neg (by omega)]
    omega
  · rw [hb] at key
    rw [hb, if_pos (by omega), if_pos (by omega)]
    omega

theorem round_split_ev {h l d : Int} (hh : U h) (hl : U l) (hW : 0 < wv h l) (hd : 0 < d) (hd' : d ≤ 1000000) :
    Ev (fun k => round_split.f k h l d (decide (wv h l % p2 d ≠ 0))) (decide (p2 d ≤ 2 * (wv h l % p2 d)), if p2 d ≤ 2 * (wv h l % p2 d) then decide (wv h l % p2 d ≠ p2 (d - 1)) else decide (wv h l % p2 d ≠ 0)) := by
  have hv := wv_range hh hl
  unfold round_split.f
  by_cases h1 : d > 128
  · have hm : wv h l % p2 d = wv h l := Int.emod_eq_of_lt hv.1 (by have := p2_le (show 128 ≤ d from by omega); rw [p2_128] at this; omega)
    have hbig : ¬ p2 d ≤ 2 * (wv h l % p2 d) := by
      rw [hm]
      have := p2_le (show 129 ≤ d from by omega)
      have e : p2 129 = 680564733841876926926749214863536422912 := by decide
      rw [e] at this
      omega
    rw [if_neg hbig, decide_eq_false hbig]
    exact Ev.pos h1 (Ev.now _)
  · refine Ev.neg h1 ?_
    obtain ⟨a, b, ev, u1, u2, e⟩ := wide_Right_ev (n := d - 1) hh hl (by omega)
    rw [w64 (x := d - 1) (by omega) (by omega)]
    refine Ev.bind ev ?_
    dsimp only
    obtain ⟨k1, k2⟩ := half_rest hv.1 hd
    rw [u64_and1 u2.1 u2.2]
    have e1 : b % 2 = wv h l / p2 (d - 1) % 2 := by rw [← e]; unfold wv; omega
    rw [e1, k1, k2]
    have hP := p2_pos (d - 1)
    by_cases hc : p2 d ≤ 2 * (wv h l % p2 d)
    · simp only [if_pos hc, decide_eq_true hc]
      have e2 : decide (wv h l % p2 d - p2 (d - 1) ≠ 0) = decide (wv h l % p2 d ≠ p2 (d - 1)) := by
        apply decide_eq_decide.mpr
        constructor <;> intro h <;> omega
      rw [e2]
      exact Ev.now _
    · simp only [if_neg hc, decide_eq_false hc]
      exact Ev.now _

/-- What is rounded, and how. -/
def rup (W d : Int) (more : Bool) : Int := if p2 d ≤ 2 * (W % p2 d) ∧ (W % p2 d ≠ p2 (d - 1) ∨ more = true ∨ W / p2 d % 2 = 1) then W / p2 d + 1 else W / p2 d

theorem rup_rnd {W E d : Int} {more : Bool} {x : Rat} (hW : 0 < W) (hd : 0 < d) (hq : -1074 ≤ E + d) (hL : blen W - 53 ≤ d) (hq2 : E + d = -1074 ∨ d = blen W - 53)
    (hx0 : more = false → x = (W : Rat) * pw E) (hx1 : more = true → (W : Rat) * pw E < x ∧ x < (W + 1 : Int) * pw E) :
    Rnd x (E + d) (rup W d more) ∧ (x = (rup W d more : Rat) * pw (E + d) ↔ (W % p2 d = 0 ∧ more = false)) := by
  have hD := p2_pos d
  have hP := p2_pos (d - 1)
  have e : p2 d = 2 * p2 (d - 1) := by rw [← p2_succ (by omega)]; congr 1; omega
  have hu := pw_pos E
  have hqD : pw (E + d) = (p2 d : Rat) * pw E := by rw [pw_add, pw_p2 (a := d) (by omega), Rat.mul_comm]
  have m2 := Int.mul_ediv_add_emod W (p2 d)
  have s0 := Int.emod_nonneg W (Int.ne_of_gt hD)
  have s1 := Int.emod_lt_of_pos W hD
  obtain ⟨bl1, bl2, bl3⟩ := blen_pos hW
  have hxlo : (W : Rat) * pw E ≤ x := by
    cases more
    · rw [hx0 rfl]; exact Rat.le_refl
    · exact Rat.le_of_lt (hx1 rfl).1
  have hxhi : x < (W + 1 : Int) * pw E := by
    cases more
    · rw [hx0 rfl]; exact mul_pw_lt.mpr (by omega)
    · exact (hx1 rfl).2
  have hpos : 0 < x := by
    have : (0 : Int) * pw E < (W : Rat) * pw E := mul_pw_lt.mpr hW
    grind
  -- a whole number times pw q, as one times pw E
  have hn : ∀ n : Int, (n : Rat) * pw (E + d) = (n * p2 d : Int) * pw E := by
    intro n; rw [hqD]; push_cast; grind
  have hlo : E + d = -1074 ∨ (4503599627370496 : Int) * pw (E + d) ≤ x := by
    rcases hq2 with h | h
    · exact .inl h
    · refine .inr (Rat.le_trans ?_ hxlo)
      rw [hn]
      apply mul_pw_le.mpr
      have e52 : (4503599627370496 : Int) = p2 52 := by decide
      rw [e52, ← p2_add (by decide) (by omega), show 52 + d = blen W - 1 from by omega]
      exact bl2
  have hhi : x < (9007199254740992 : Int) * pw (E + d) := by
    refine Std.lt_of_lt_of_le hxhi ?_
    rw [hn]
    apply mul_pw_le.mpr
    have e53 : (9007199254740992 : Int) = p2 53 := by decide
    rw [e53, ← p2_add (by decide) (by omega)]
    have := p2_le (show blen W ≤ 53 + d from by omega)
    omega
  generalize hA : W / p2 d = A at *
  generalize hR : W % p2 d = R at *
  have two : ∀ {y z : Int}, y ≤ z → ((y : Int) : Rat) * pw E ≤ z * pw E := fun h => mul_pw_le.mpr h
  have x2 : (2 * W : Int) * pw E ≤ 2 * x := by push_cast; grind
  have x2' : 2 * x < (2 * W + 2 : Int) * pw E := by push_cast at hxhi ⊢; grind
  have ex0 : more = false → 2 * x = (2 * W : Int) * pw E := fun h => by rw [hx0 h]; push_cast; grind
  have ex1 : more = true → (2 * W : Int) * pw E < 2 * x := fun h => by have := (hx1 h).1; push_cast; grind
  by_cases hup : p2 d ≤ 2 * R ∧ (R ≠ p2 (d - 1) ∨ more = true ∨ A % 2 = 1)
  · have er : rup W d more = A + 1 := by unfold rup; rw [hA, hR, if_pos hup]
    rw [er]
    obtain ⟨u1, u2⟩ := hup
    have lt1 : 2 * x < (2 * (A + 1) + 1 : Int) * pw (E + d) := by
      rw [hn]
      refine Std.lt_of_lt_of_le x2' (two ?_)
      have : (2 * (A + 1) + 1) * p2 d = 2 * (p2 d * A) + 3 * p2 d := by grind
      omega
    have ge1 : (2 * (A + 1) - 1 : Int) * pw (E + d) ≤ 2 * x := by
      rw [hn]
      refine Rat.le_trans (two ?_) x2
      have : (2 * (A + 1) - 1) * p2 d = 2 * (p2 d * A) + p2 d := by grind
      omega
    refine ⟨⟨hq, hlo, hhi, hpos, Rat.le_of_lt lt1, ge1, fun h => absurd h (by grind), fun h => ?_⟩, ?_⟩
    · -- a tie: nothing more, and A is odd
      rw [hn] at h
      have t1 : (2 * (A + 1) - 1) * p2 d = 2 * (p2 d * A) + p2 d := by grind
      rw [t1] at h
      cases hm : more
      · rw [ex0 hm] at h
        have := mul_pw_inj h
        rcases u2 with u2 | u2 | u2
        · omega
        · rw [hm] at u2; cases u2
        · omega
      · have h1 := ex1 hm
        rw [h] at h1
        have := mul_pw_lt.mp h1
        omega
    · constructor
      · intro h
        exfalso
        have h' : 2 * x = (2 * ((A + 1) * p2 d) : Int) * pw E := by rw [h, hn]; push_cast; grind
        have t1 : (A + 1) * p2 d = p2 d * A + p2 d := by grind
        rw [t1] at h'
        cases hm : more
        · rw [ex0 hm] at h'
          have := mul_pw_inj h'
          omega
        · have h1 := ex1 hm
          have h2 := x2'
          rw [h'] at h1 h2
          have := mul_pw_lt.mp h1
          have := mul_pw_lt.mp h2
          omega
      · intro ⟨h1, _⟩; omega
  · have er : rup W d more = A := by unfold rup; rw [hA, hR, if_neg hup]
    rw [er]
    have hup' : ¬ p2 d ≤ 2 * R ∨ (R = p2 (d - 1) ∧ more = false ∧ A % 2 = 0) := by
      by_cases c : p2 d ≤ 2 * R
      · refine .inr ?_
        have c2 : ¬ (R ≠ p2 (d - 1) ∨ more = true ∨ A % 2 = 1) := fun h => hup ⟨c, h⟩
        refine ⟨?_, ?_, ?_⟩
        · exact Decidable.byContradiction fun h => c2 (.inl h)
        · cases more
          · rfl
          · exact absurd (.inr (.inl rfl)) c2
        · have : ¬ A % 2 = 1 := fun h => c2 (.inr (.inr h))
          omega
      · exact .inl c
    have t1 : (2 * A + 1) * p2 d = 2 * (p2 d * A) + p2 d := by grind
    have t2 : (2 * A - 1) * p2 d = 2 * (p2 d * A) - p2 d := by grind
    have le1 : 2 * x ≤ (2 * A + 1 : Int) * pw (E + d) := by
      rw [hn, t1]
      rcases hup' with h | ⟨h, hm, h2⟩
      · exact Rat.le_trans (Rat.le_of_lt x2') (two (by omega))
      · rw [ex0 hm]; exact two (by omega)
    have ge1 : (2 * A - 1 : Int) * pw (E + d) < 2 * x := by
      rw [hn, t2]
      exact Std.lt_of_lt_of_le (mul_pw_lt.mpr (by omega)) x2
    refine ⟨⟨hq, hlo, hhi, hpos, le1, Rat.le_of_lt ge1, fun h => ?_, fun h => absurd h (by grind)⟩, ?_⟩
    · rw [hn, t1] at h
      rcases hup' with h1 | ⟨h1, hm, h2⟩
      · exfalso
        have h2 := x2'
        rw [h] at h2
        have := mul_pw_lt.mp h2
        omega
      · exact h2
    · constructor
      · intro h
        have h' : 2 * x = (2 * (A * p2 d) : Int) * pw E := by rw [h, hn]; push_cast; grind
        have t3 : A * p2 d = p2 d * A := by grind
        rw [t3] at h'
        cases hm : more
        · rw [ex0 hm] at h'
          have := mul_pw_inj h'
          exact ⟨by omega, rfl⟩
        · exfalso
          have h1 := ex1 hm
          have h2 := x2'
          rw [h'] at h1 h2
          have := mul_pw_lt.mp h1
          have := mul_pw_lt.mp h2
          omega
      · intro ⟨h1, hm⟩
        rw [hx0 hm, hn]
        congr 2
        have t3 : A * p2 d = p2 d * A := by grind
        rw [t3]
        omega

/-- Where the pattern would be infinite, the number isn't small. -/
theorem tiny_enc {x : Rat} {q n : Int} (h : Rnd x q n) (hx : x < pw (-1022)) : enc q n < INF := by
  have h1 : Rnd (vm 4503599627370496) (expo 4503599627370496) (mant 4503599627370496) := Rnd.of_vm (by decide)
  have e : vm 4503599627370496 = pw (-1022) := by
    unfold vm
    have e1 : mant 4503599627370496 = 4503599627370496 := by decide
    have e2 : expo 4503599627370496 = -1074 := by decide
    rw [e1, e2]
    have e3 : (4503599627370496 : Int) = p2 52 := by decide
    rw [e3, ← pw_p2 (by decide), ← pw_add]
    rfl
  have h2 := h.enc_mono h1 (by rw [e]; exact Rat.le_of_lt hx)
  rw [enc_mant _ (by decide)] at h2
  unfold INF
  omega

/-- ROUNDING: of w times 2^exp, or of what is a little more than that (and then w is long enough). -/
theorem round_Round_ev (neg : Bool) {h l E : Int} (hh : U h) (hl : U l) (hE : -100000 ≤ E) (hE' : E ≤ 100000) (more : Bool) {x : Rat} (hW : 0 < wv h l)
    (hx0 : more = false → x = (wv h l : Rat) * pw E) (hx1 : more = true → ((wv h l : Rat) * pw E < x ∧ x < (wv h l + 1 : Int) * pw E) ∧ 54 ≤ blen (wv h l)) :
    ∃ b f, Ev (fun k => round_Round.f k neg h l E more) (signed neg b, f) ∧ RB x b f := by
  have hv := wv_range hh hl
  obtain ⟨bl1, bl2, bl3⟩ := blen_pos hW
  have bl4 := blen_wv_le hh hl
  generalize hWW : wv h l = W at *
  have emx : mx (-100000) (mn E 100000) = E := by unfold mx mn; grind
  have hu := pw_pos E
  have hxlo : (W : Rat) * pw E ≤ x := by
    cases more
    · rw [hx0 rfl]; exact Rat.le_refl
    · exact Rat.le_of_lt (hx1 rfl).1.1
  have hxhi : x < (W + 1 : Int) * pw E := by
    cases more
    · rw [hx0 rfl]; exact mul_pw_lt.mpr (by omega)
    · exact (hx1 rfl).1.2
  have ht : decide (wrap64 (E + blen W) < -1021) = decide (x < pw (-1022)) := by
    rw [w64 (by omega) (by omega)]
    apply decide_eq_decide.mpr
    have hxl : pw (blen W - 1 + E) ≤ x := by
      refine Rat.le_trans ?_ hxlo
      rw [pw_add, pw_p2 (a := blen W - 1) (by omega)]
      exact mul_pw_le.mpr bl2
    have hxr : x < pw (blen W + E) := by
      refine Std.lt_of_lt_of_le hxhi ?_
      rw [pw_add, pw_p2 (a := blen W) (by omega)]
      exact mul_pw_le.mpr (by omega)
    constructor
    · intro h
      exact Std.lt_of_lt_of_le hxr (pw_mono (by omega))
    · intro h
      exact Decidable.byContradiction fun hc => by
        have := pw_mono (show -1022 ≤ blen W - 1 + E from by omega)
        grind
  -- from the number of bits that fall out on
  have main : ∀ d, -1074 ≤ E + d → blen W - 53 ≤ d → (E + d = -1074 ∨ d = blen W - 53) → d ≤ 200000 → -200 ≤ d →
      ∃ b f, Ev (fun k => round_Round.j0 k neg E more d (decide (x < pw (-1022))) h l) (signed neg b, f) ∧ RB x b f := by
    intro d hq hL hq2 hd1 hd2
    by_cases hd : d > 0
    · obtain ⟨hr, hex⟩ := rup_rnd hW hd hq hL hq2 hx0 (fun h => (hx1 h).1)
      refine ⟨_, _, ?_, ⟨_, _, hr, rfl, rfl⟩⟩
      obtain ⟨a, b, ev, u1, u2, ea⟩ := wide_Right_ev (n := d) hh hl (by omega)
      have hsp := round_split_ev hh hl (by rw [hWW]; exact hW) hd (by omega)
      rw [hWW] at ev hsp ea
      refine Ev.succ ?_
      simp only [round_Round.j0]
      refine Ev.pos hd (Ev.bind ev ?_)
      dsimp only
      refine Ev.bind hsp ?_
      dsimp only
      have hD := p2_pos d
      have hP := p2_pos (d - 1)
      have e : p2 d = 2 * p2 (d - 1) := by rw [← p2_succ (by omega)]; congr 1; omega
      have m2 := Int.mul_ediv_add_emod W (p2 d)
      have s0 := Int.emod_nonneg W (Int.ne_of_gt hD)
      have s1 := Int.emod_lt_of_pos W hD
      have hA0 : 0 ≤ W / p2 d := Int.ediv_nonneg (Int.le_of_lt hW) (Int.le_of_lt hD)
      have hA1 : W / p2 d < 9007199254740992 := by
        apply Int.ediv_lt_of_lt_mul hD
        have e53 : (9007199254740992 : Int) = p2 53 := by decide
        rw [e53, ← p2_add (by decide) (by omega)]
        have := p2_le (show blen W ≤ 53 + d from by omega)
        omega
      have hb : b = W / p2 d ∧ a = 0 := by unfold wv at ea; obtain ⟨x1, x2⟩ := u1; obtain ⟨x3, x4⟩ := u2; omega
      obtain ⟨rfl, rfl⟩ := hb
      have nn := hr.n_nonneg
      have nl := hr.n_le
      have ng := hr.n_ge'
      have tt : decide (x < pw (-1022)) = true → enc (E + d) (rup W d more) < INF := fun h => tiny_enc hr (of_decide_eq_true h)
      -- what is left: j2, with the answer on 'up'
      have j2 : ∀ lost : Bool, lost = decide (¬ (W % p2 d = 0 ∧ more = false)) → ∀ up : Bool, rup W d more = (if up then W / p2 d + 1 else W / p2 d) →
          Ev (fun k => round_Round.j2 k neg E d (decide (x < pw (-1022))) lost up 0 (W / p2 d)) (signed neg (if enc (E + d) (rup W d more) < INF then enc (E + d) (rup W d more) else INF),
            if enc (E + d) (rup W d more) < INF then (if x = (rup W d more : Rat) * pw (E + d) then 0 else if x < pw (-1022) then 3 else 1) else 5) := by
        intro lost hlost up hup
        have efl : fl lost (decide (x < pw (-1022))) = (if x = (rup W d more : Rat) * pw (E + d) then 0 else if x < pw (-1022) then 3 else 1) := by
          unfold fl
          by_cases c : W % p2 d = 0 ∧ more = false
          · rw [if_pos (hex.mpr c), hlost, decide_eq_false (by simpa using c)]
            rfl
          · rw [if_neg (fun h => c (hex.mp h)), hlost, decide_eq_true c]
            simp
        rw [← efl]
        refine Ev.succ ?_
        simp only [round_Round.j2]
        cases up
        · simp only [Bool.false_eq_true, if_false] at hup
          refine Ev.neg (by decide) ?_
          have := round_j4 neg (decide (x < pw (-1022))) lost (hi := 0) (by omega) (by omega) (by omega) (by omega) rfl hq (by omega) nn nl ng tt
          rw [hup] at this ⊢
          exact this
        · simp only [if_true] at hup
          have U0 : U 0 := ⟨by decide, by decide⟩
          have U1 : U 1 := ⟨by decide, by decide⟩
          obtain ⟨a', b', e1, v1, v2, e2⟩ := wide_Add_eq (h := 0) (l := W / p2 d) (h' := 0) (l' := 1) U0 ⟨hA0, by omega⟩ U0 U1
          refine Ev.pos rfl (Ev.call e1 ?_)
          dsimp only
          have eb : b' = W / p2 d + 1 := by unfold wv at e2; obtain ⟨x1, x2⟩ := v1; obtain ⟨x3, x4⟩ := v2; omega
          rw [eb]
          have := round_j4 neg (decide (x < pw (-1022))) lost (hi := a') (by omega) (by omega) (by omega) (by omega) rfl hq (by omega) nn nl ng tt
          rw [hup] at this ⊢
          exact this
      -- j1
      by_cases hc : p2 d ≤ 2 * (W % p2 d)
      · have hne : W % p2 d ≠ 0 := by omega
        have hl1 : true = decide (¬ (W % p2 d = 0 ∧ more = false)) := by simp [hne]
        rw [if_pos hc, decide_eq_true hc]
        refine Ev.pos rfl (Ev.succ ?_)
        simp only [round_Round.j1]
        refine Ev.pos trivial ?_
        by_cases hc2 : W % p2 d ≠ p2 (d - 1)
        · rw [decide_eq_true hc2]
          refine Ev.pos rfl (j2 true hl1 true ?_)
          unfold rup; rw [if_pos ⟨hc, .inl hc2⟩]; rfl
        · rw [decide_eq_false hc2]
          refine Ev.neg (by decide) ?_
          by_cases hm : more = true
          · refine Ev.pos hm (j2 true hl1 true ?_)
            unfold rup; rw [if_pos ⟨hc, .inr (.inl hm)⟩]; rfl
          · refine Ev.neg hm ?_
            rw [u64_and1 hA0 (by omega)]
            refine j2 true hl1 _ ?_
            unfold rup
            by_cases hodd : W / p2 d % 2 = 1
            · rw [if_pos ⟨hc, .inr (.inr hodd)⟩]; simp [hodd]
            · have hno : ¬ (p2 d ≤ 2 * (W % p2 d) ∧ (W % p2 d ≠ p2 (d - 1) ∨ more = true ∨ W / p2 d % 2 = 1)) := by
                intro h
                rcases h.2 with h | h | h
                · exact hc2 h
                · exact hm h
                · exact hodd h
              rw [if_neg hno]; simp [hodd]
      · rw [if_neg hc, decide_eq_false hc]
        refine Ev.neg (by decide) ?_
        have er : rup W d more = W / p2 d := by unfold rup; rw [if_neg (fun h => hc h.1)]
        by_cases hz : W % p2 d = 0
        · rw [show decide (W % p2 d ≠ 0) = false from by simp [hz]]
          refine Ev.neg (by decide) (Ev.succ ?_)
          simp only [round_Round.j1]
          refine Ev.neg (by decide) (j2 more (by cases more <;> simp [hz]) false ?_)
          rw [er]; rfl
        · rw [show decide (W % p2 d ≠ 0) = true from by simp [hz]]
          refine Ev.pos rfl (Ev.succ ?_)
          simp only [round_Round.j1]
          refine Ev.neg (by decide) (j2 true (by simp [hz]) false ?_)
          rw [er]; rfl
    · -- nothing falls out
      have hm : more = false := by
        cases hm : more
        · rfl
        · have := (hx1 hm).2; omega
      have hP := p2_pos (-d)
      have hx : x = ((W * p2 (-d) : Int) : Rat) * pw (E + d) := by
        rw [hx0 hm]
        have : pw E = (p2 (-d) : Rat) * pw (E + d) := by rw [← pw_p2 (by omega), ← pw_add]; congr 1; omega
        rw [this]; push_cast; grind
      have hn1 : W * p2 (-d) < 9007199254740992 := by
        have e53 : (9007199254740992 : Int) = p2 (blen W) * p2 (53 - blen W) := by rw [← p2_add (by omega) (by omega), show blen W + (53 - blen W) = 53 from by omega]; decide
        have h1 : W * p2 (-d) < p2 (blen W) * p2 (-d) := Int.mul_lt_mul_of_pos_right bl3 hP
        have h2 : p2 (blen W) * p2 (-d) ≤ p2 (blen W) * p2 (53 - blen W) := Int.mul_le_mul_of_nonneg_left (p2_le (by omega)) (Int.le_of_lt (p2_pos _))
        omega
      have hn0 : 0 < W * p2 (-d) := Int.mul_pos hW hP
      have hng : E + d = -1074 ∨ 4503599627370496 ≤ W * p2 (-d) := by
        rcases hq2 with h | h
        · exact .inl h
        · refine .inr ?_
          have e52 : (4503599627370496 : Int) = p2 (blen W - 1) * p2 (-d) := by rw [← p2_add (by omega) (by omega), show blen W - 1 + -d = 52 from by omega]; decide
          rw [e52]
          exact Int.mul_le_mul_of_nonneg_right bl2 (Int.le_of_lt hP)
      have hr : Rnd x (E + d) (W * p2 (-d)) := by rw [hx]; exact Rnd.self hq hn0 hn1 hng
      refine ⟨_, _, ?_, ⟨_, _, hr, rfl, rfl⟩⟩
      have efl : fl false (decide (x < pw (-1022))) = (if x = ((W * p2 (-d) : Int) : Rat) * pw (E + d) then 0 else if x < pw (-1022) then 3 else 1) := by
        rw [if_pos hx]; rfl
      rw [← efl]
      have tt : decide (x < pw (-1022)) = true → enc (E + d) (W * p2 (-d)) < INF := fun h => tiny_enc hr (of_decide_eq_true h)
      have fin : ∀ hi, Ev (fun k => round_Round.j4 k neg E d (decide (x < pw (-1022))) false hi (W * p2 (-d))) _ := fun hi =>
        round_j4 neg (decide (x < pw (-1022))) false (hi := hi) (by omega) (by omega) (by omega) (by omega) rfl hq (by omega) (Int.le_of_lt hn0) (by omega) hng tt
      refine Ev.succ ?_
      simp only [round_Round.j0, hm]
      refine Ev.neg hd ?_
      by_cases hd0 : d < 0
      · refine Ev.pos hd0 (Ev.succ ?_)
        simp only [round_Round.j3]
        refine Ev.pos rfl ?_
        rw [w64 (x := -d) (by omega) (by omega)]
        obtain ⟨a', b', e1, v1, v2, e2⟩ := wide_Left_small (n := -d) hh hl (by omega) (by rw [hWW]; omega)
        refine Ev.call e1 ?_
        dsimp only
        have eb : b' = W * p2 (-d) := by rw [hWW] at e2; unfold wv at e2; obtain ⟨x1, x2⟩ := v1; obtain ⟨x3, x4⟩ := v2; omega
        rw [eb]
        exact fin a'
      · obtain rfl : d = 0 := by omega
        refine Ev.neg hd0 (Ev.succ ?_)
        simp only [round_Round.j3]
        refine Ev.neg (by decide) (Ev.neg (by decide) ?_)
        have e1 : W * p2 (-0) = l := by
          rw [show p2 (-0) = 1 from rfl, Int.mul_one]
          have : W < 9007199254740992 := by rw [show p2 (-0) = 1 from rfl, Int.mul_one] at hn1; exact hn1
          unfold wv at hWW; obtain ⟨x1, x2⟩ := hh; obtain ⟨x3, x4⟩ := hl; omega
        have := fin h
        rw [e1] at this ⊢
        exact this
  unfold round_Round.f
  have hz := wide_Zero_eq hh hl
  rw [hWW, decide_eq_false (by omega)] at hz
  have hlen := wide_Len_ev hh hl
  rw [hWW] at hlen
  rw [emx]
  have e1 : wrap64 (blen W - 53) = blen W - 53 := w64 (by omega) (by omega)
  have e2 : wrap64 (E + (blen W - 53)) = E + (blen W - 53) := w64 (by omega) (by omega)
  by_cases hs : E + (blen W - 53) < -1074
  · obtain ⟨b, f, ev, rb⟩ := main (-1074 - E) (by omega) (by omega) (.inl (by omega)) (by omega) (by omega)
    refine ⟨b, f, Ev.call hz (Ev.neg (by decide) (Ev.bind hlen (Ev.bind hlen ?_))), rb⟩
    rw [e1, e2, ht, w64 (x := -1074 - E) (by omega) (by omega)]
    exact Ev.pos hs ev
  · obtain ⟨b, f, ev, rb⟩ := main (blen W - 53) (by omega) (by omega) (.inr rfl) (by omega) (by omega)
    refine ⟨b, f, Ev.call hz (Ev.neg (by decide) (Ev.bind hlen (Ev.bind hlen ?_))), rb⟩
    rw [e1, e2, ht]
    exact Ev.neg hs ev
theorem round_Round_zero (neg : Bool) (E : Int) : Ev (fun k => round_Round.f k neg 0 0 E false) (signed neg 0, 0) := by
  have U0 : U 0 := ⟨by decide, by decide⟩
  unfold round_Round.f
  refine Ev.call (wide_Zero_eq U0 U0) (Ev.pos (by decide) (Ev.neg (by decide) (Ev.call (word_Make_eq neg (by decide) (by decide) U0) ?_)))
  exact Ev.now _

/-- The pattern without its sign; the sign; the value of a number. -/
def mag (a : Int) : Int := a % 9223372036854775808
def neg (a : Int) : Bool := decide (9223372036854775808 ≤ a)
def fin (a : Int) : Prop := mag a < INF
def val (a : Int) : Rat := if neg a then -vm (mag a) else vm (mag a)
instance (a : Int) : Decidable (fin a) := by unfold fin; exact inferInstance

theorem mag_lt {a : Int} : 0 ≤ mag a ∧ mag a < 9223372036854775808 := by unfold mag; omega
theorem mag_signed {s : Bool} {m : Int} (h0 : 0 ≤ m) (h1 : m < 9223372036854775808) : mag (signed s m) = m := by unfold mag signed; cases s <;> simp <;> omega
theorem neg_signed {s : Bool} {m : Int} (h0 : 0 ≤ m) (h1 : m < 9223372036854775808) : neg (signed s m) = s := by
  unfold neg signed
  cases s
  · simp; omega
  · simp; omega
theorem signed_eta {a : Int} (h : U a) : signed (neg a) (mag a) = a := by
  obtain ⟨h0, h1⟩ := h
  unfold signed neg mag
  by_cases c : 9223372036854775808 ≤ a
  · simp [c]; omega
  · simp [c]; omega
theorem U_signed {s : Bool} {m : Int} (h0 : 0 ≤ m) (h1 : m < 9223372036854775808) : U (signed s m) := by
  unfold U signed; cases s <;> simp <;> omega
theorem U_flip {a : Int} (h : U a) : U (flip a) := by obtain ⟨h0, h1⟩ := h; unfold U flip; split <;> omega
theorem val_signed {s : Bool} {m : Int} (h0 : 0 ≤ m) (h1 : m < 9223372036854775808) : val (signed s m) = if s then -vm m else vm m := by
  unfold val; rw [mag_signed h0 h1, neg_signed h0 h1]
theorem val_zero_iff {a : Int} : val a = 0 ↔ mag a = 0 := by
  unfold val
  have h0 := (mag_lt (a := a)).1
  constructor
  · intro h
    by_cases hm : mag a = 0
    · exact hm
    · have := vm_pos (m := mag a) (by omega)
      cases hn : neg a <;> simp [hn] at h <;> grind
  · intro h
    rw [h, vm_zero]
    cases neg a <;> simp
theorem val_abs (a : Int) : vm (mag a) = if val a < 0 then -val a else val a := by
  have h0 := vm_nonneg (mag_lt (a := a)).1
  unfold val
  cases neg a <;> simp <;> grind

/-- The magnitude of a rational number. -/
def rabs (x : Rat) : Rat := if x < 0 then -x else x
theorem rabs_pos {x : Rat} (h : x ≠ 0) : 0 < rabs x := by unfold rabs; grind
theorem rabs_neg (x : Rat) : rabs (-x) = rabs x := by unfold rabs; grind
theorem rabs_mul (X Y : Rat) : rabs (X * Y) = rabs X * rabs Y := by
  unfold rabs
  by_cases c1 : X < 0 <;> by_cases c2 : Y < 0
  · have := Rat.mul_pos (show 0 < -X by grind) (show 0 < -Y by grind)
    rw [if_pos c1, if_pos c2, if_neg (by grind)]; grind
  · have := Rat.mul_nonneg (show 0 ≤ -X by grind) (show 0 ≤ Y by grind)
    rw [if_pos c1, if_neg c2]
    by_cases c3 : X * Y < 0
    · rw [if_pos c3]; grind
    · rw [if_neg c3]; grind
  · have := Rat.mul_nonneg (show 0 ≤ X by grind) (show 0 ≤ -Y by grind)
    rw [if_neg c1, if_pos c2]
    by_cases c3 : X * Y < 0
    · rw [if_pos c3]; grind
    · rw [if_neg c3]; grind
  · have := Rat.mul_nonneg (show 0 ≤ X by grind) (show 0 ≤ Y by grind)
    rw [if_neg c1, if_neg c2, if_neg (by grind)]
theorem rabs_val (a : Int) : rabs (val a) = vm (mag a) := (val_abs a).symm

/-- A number, rounded: the pattern and the flags; z: the sign of a zero. -/
structure Rd (x : Rat) (z : Bool) (r f : Int) : Prop where
  zero : x = 0 → r = signed z 0 ∧ f = 0
  num : x ≠ 0 → ∃ m, RB (rabs x) m f ∧ r = signed (decide (x < 0)) m

theorem Rd.unique {x : Rat} {z : Bool} {r f r' f' : Int} (h : Rd x z r f) (h' : Rd x z r' f') : r = r' ∧ f = f' := by
  by_cases hx : x = 0
  · obtain ⟨rfl, rfl⟩ := h.zero hx
    obtain ⟨rfl, rfl⟩ := h'.zero hx
    exact ⟨rfl, rfl⟩
  · obtain ⟨m, h1, rfl⟩ := h.num hx
    obtain ⟨m', h1', rfl⟩ := h'.num hx
    obtain ⟨rfl, rfl⟩ := h1.unique h1'
    exact ⟨rfl, rfl⟩
theorem Rd.range {x : Rat} {z : Bool} {r f : Int} (h : Rd x z r f) : U r ∧ mag r ≤ INF := by
  by_cases hx : x = 0
  · obtain ⟨rfl, _⟩ := h.zero hx
    exact ⟨U_signed (by decide) (by decide), by rw [mag_signed (by decide) (by decide)]; decide⟩
  · obtain ⟨m, h1, rfl⟩ := h.num hx
    have := h1.range
    have hI : INF < 9223372036854775808 := by decide
    exact ⟨U_signed this.1 (by omega), by rw [mag_signed this.1 (by omega)]; exact this.2⟩
theorem Rd.sign {x : Rat} {z : Bool} {r f : Int} (h : Rd x z r f) : neg r = if x = 0 then z else decide (x < 0) := by
  by_cases hx : x = 0
  · obtain ⟨rfl, _⟩ := h.zero hx
    rw [if_pos hx, neg_signed (by decide) (by decide)]
  · obtain ⟨m, h1, rfl⟩ := h.num hx
    have := h1.range
    have hI : INF < 9223372036854775808 := by decide
    rw [if_neg hx, neg_signed this.1 (by omega)]
/-- A number that is a pattern's is rounded to it, if it isn't zero. -/
theorem Rd.self {a : Int} (ha : U a) (hf : fin a) (h0 : mag a ≠ 0) (z : Bool) : Rd (val a) z a 0 := by
  have hv : val a ≠ 0 := fun h => h0 (val_zero_iff.mp h)
  have hm := (mag_lt (a := a)).1
  refine ⟨fun h => absurd h hv, fun _ => ⟨mag a, ?_, ?_⟩⟩
  · rw [rabs_val]; exact RB.self (by omega) hf
  · have e : decide (val a < 0) = neg a := by
      have := vm_pos (m := mag a) (by omega)
      unfold val
      cases neg a <;> simp <;> grind
    rw [e, signed_eta ha]
/-- Where nothing was lost, the pattern is the number. -/
theorem Rd.exact {x : Rat} {z : Bool} {r : Int} (h : Rd x z r 0) : val r = x ∧ fin r := by
  have hI : INF < 9223372036854775808 := by decide
  by_cases hx : x = 0
  · obtain ⟨rfl, _⟩ := h.zero hx
    refine ⟨?_, ?_⟩
    · rw [val_signed (by decide) (by decide), vm_zero, hx]; cases z <;> simp
    · unfold fin; rw [mag_signed (by decide) (by decide)]; decide
  · obtain ⟨m, h1, rfl⟩ := h.num hx
    have hr := h1.range
    obtain ⟨q, n, hq, e1, e2⟩ := h1.ex
    by_cases c : enc q n < INF
    · rw [if_pos c] at e1 e2
      have e3 : rabs x = (n : Rat) * pw q := by
        by_cases c2 : rabs x = (n : Rat) * pw q
        · exact c2
        · rw [if_neg c2] at e2; split at e2 <;> omega
      subst e1
      refine ⟨?_, ?_⟩
      · rw [val_signed hr.1 (by omega), hq.val_enc, ← e3]
        unfold rabs
        by_cases c3 : x < 0
        · simp [c3]
        · simp [c3]
      · unfold fin; rw [mag_signed hr.1 (by omega)]; exact c
    · rw [if_neg c] at e2; omega

theorem word_Finite_eq {a : Int} (h : U a) : word_Finite.f a = some (decide (fin a)) := by
  unfold word_Finite.f
  rw [word_Exp_eq h]
  simp only [Option.bind_some]
  congr 1
  apply decide_eq_decide.mpr
  obtain ⟨h0, h1⟩ := h
  unfold fin mag INF
  constructor <;> intro h <;> omega
end Gim
namespace Gim
open Go Go.RowKit Go.Proofs.YtejkoahgmnejkaaDoorW.PrintWords Go.Proofs.YtejkoahgmnejkaaDoorW.PrintLast Go.Proofs.YtejkoahgmnejkaaDoorW.PrintMore Go.Proofs.YtejkoahgmnejkaaDoor.F
set_option linter.unusedVariables false
set_option linter.unusedSectionVars false

section
variable {R C : Nat} {s : Int} {d : List Int} (hR : R ≤ 100) (hC : C ≤ 100) (hs : s ≤ 1099511627776) (hu : ∀ x ∈ d, U x)
include hR hC hs hu
theorem finite_l1 {i : Nat} (hi : i < R) {nb : Bool} (next : Ev (fun K => mat_Matrix_Finite.l0 K R ((i + 1 : Nat) : Int) R C s d) nb) :
    ∀ t k : Nat, C - k = t → k ≤ C → ∃ b, Ev (fun K => mat_Matrix_Finite.l1 K i R i C k R C s d) b ∧ (b = true ↔ (∀ j : Nat, k ≤ j → j < C → fin (at4 R C s d i j)) ∧ nb = true) := by
  intro t
  induction t with
  | zero =>
    intro k h1 h2
    refine ⟨nb, Ev.succ ?_, ?_⟩
    · simp only [mat_Matrix_Finite.l1]
      rw [w64 (x := (i : Int) + 1) (by omega) (by omega)]
      exact Ev.neg (by omega) next
    · exact ⟨fun h => ⟨fun j h3 h4 => by omega, h⟩, fun h => h.2⟩
  | succ t ih =>
    intro k h1 h2
    have u := at_U (r := R) (c := C) (s := s) hu i k
    by_cases fi : fin (at4 R C s d i k)
    · obtain ⟨b, ev, hb⟩ := ih (k + 1) (by omega) (by omega)
      refine ⟨b, Ev.succ ?_, ?_⟩
      · simp only [mat_Matrix_Finite.l1]
        rw [w64 (x := (k : Int) + 1) (by omega) (by omega)]
        exact Ev.pos (by omega) (Ev.call (at_eq ⟨by omega, by omega, by omega⟩ _ _ _) (Ev.call (word_Finite_eq u) (Ev.pos (decide_eq_true fi) ev)))
      · rw [hb]
        constructor
        · rintro ⟨h3, h4⟩
          refine ⟨fun j h5 h6 => ?_, h4⟩
          by_cases e : j = k
          · subst e; exact fi
          · exact h3 j (by omega) h6
        · rintro ⟨h3, h4⟩
          exact ⟨fun j h5 h6 => h3 j (by omega) h6, h4⟩
    · refine ⟨false, Ev.succ ?_, ?_⟩
      · simp only [mat_Matrix_Finite.l1]
        exact Ev.pos (by omega) (Ev.call (at_eq ⟨by omega, by omega, by omega⟩ _ _ _) (Ev.call (word_Finite_eq u) (Ev.neg (by rw [decide_eq_false fi]; decide) (Ev.now _))))
      · constructor
        · intro h; cases h
        · intro h; exact absurd (h.1 k (Nat.le_refl _) (by omega)) fi
theorem finite_l0 : ∀ t i : Nat, R - i = t → i ≤ R → ∃ b, Ev (fun K => mat_Matrix_Finite.l0 K R i R C s d) b ∧ (b = true ↔ ∀ j k : Nat, i ≤ j → j < R → k < C → fin (at4 R C s d j k)) := by
  intro t
  induction t with
  | zero =>
    intro i h1 h2
    refine ⟨true, Ev.succ ?_, ⟨fun _ j k h3 h4 => by omega, fun _ => rfl⟩⟩
    simp only [mat_Matrix_Finite.l0]
    exact Ev.neg (by omega) (Ev.now _)
  | succ t ih =>
    intro i h1 h2
    obtain ⟨nb, ev, hn⟩ := ih (i + 1) (by omega) (by omega)
    obtain ⟨b, ev2, hb⟩ := finite_l1 hR hC hs hu (i := i) (by omega) ev C 0 (by omega) (by omega)
    refine ⟨b, Ev.succ ?_, ?_⟩
    · simp only [mat_Matrix_Finite.l0]
      exact Ev.pos (by omega) ev2
    · rw [hb, hn]
      constructor
      · rintro ⟨h3, h4⟩ j k h5 h6 h7
        by_cases e : j = i
        · subst e; exact h3 k (by omega) h7
        · exact h4 j k (by omega) h6 h7
      · intro h
        exact ⟨fun j h5 h6 => h i j (Nat.le_refl _) (by omega) h6, fun j k h5 h6 h7 => h j k (by omega) h6 h7⟩
/-- Whether all is finite. -/
theorem finite_ev : ∃ b, Ev (fun K => mat_Matrix_Finite.f K R C s d) b ∧ (b = true ↔ ∀ j k : Nat, j < R → k < C → fin (at4 R C s d j k)) := by
  unfold mat_Matrix_Finite.f
  obtain ⟨b, ev, hb⟩ := finite_l0 hR hC hs hu R 0 (by omega) (by omega)
  exact ⟨b, ev, hb.trans ⟨fun h j k h1 h2 => h j k (by omega) h1 h2, fun h j k _ h1 h2 => h j k h1 h2⟩⟩
end
end Gim
namespace Gim
open Go Go.RowKit Go.Proofs.YtejkoahgmnejkaaDoorW.PrintWords Go.Proofs.YtejkoahgmnejkaaDoorW.PrintLast Go.Proofs.YtejkoahgmnejkaaDoorW.PrintMore Go.Proofs.YtejkoahgmnejkaaDoor.F
set_option linter.unusedVariables false

theorem U_0 : U 0 := ⟨by decide, by decide⟩
theorem U_1 : U 1 := ⟨by decide, by decide⟩
def isNan (a : Int) : Bool := decide (INF < mag a)
def QNAN : Int := 9221120237041090560
def nanF (a b : Int) : Int := if signals a || signals b then 16 else 0

theorem kind_mag (a : Int) : kindOf (a % 9223372036854775808) = kindOf (mag a) := rfl
theorem kind_nan {a : Int} : kindOf (mag a) = 5 ↔ isNan a = true := by rw [kind5 mag_lt.1]; unfold isNan INF; simp
theorem kind_inf {a : Int} : kindOf (mag a) = 4 ↔ mag a = INF := kind4 mag_lt.1
theorem kind_zero {a : Int} : kindOf (mag a) = 1 ↔ mag a = 0 := kind1
theorem signals_nan {a : Int} (h : signals a = true) : isNan a = true := by unfold signals at h; unfold isNan INF mag; simp at h ⊢; exact h.1
theorem fin_nan {a : Int} (h : fin a) : isNan a = false := by unfold fin at h; unfold isNan; simp; omega
theorem expo_mono {m m' : Int} (h0 : 0 ≤ m) (h : m ≤ m') : expo m ≤ expo m' := by unfold expo; grind
theorem fin_expo {a : Int} (h : fin a) : -1074 ≤ expo (mag a) ∧ expo (mag a) ≤ 971 := by
  have h0 := (mag_lt (a := a)).1
  unfold fin INF at h
  unfold expo
  split <;> omega
theorem wl64 {m : Int} (h0 : 0 ≤ m) (h1 : m < 18446744073709551616) : wide_Wide_Left.f 0 m 64 = some (m, 0) := by
  obtain ⟨a, b, e, u1, u2, ev⟩ := wide_Left_eq (h := 0) (l := m) (n := 64) U_0 ⟨h0, h1⟩ (by decide)
  rw [e]
  have : wv m 0 = wv a b := by
    rw [ev, p2_64]
    unfold wv; omega
  obtain ⟨rfl, rfl⟩ := wv_inj ⟨h0, h1⟩ U_0 u1 u2 this
  rfl

/-- Signs and magnitudes of a sum. -/
theorem val_eq (a : Int) : val a = (if neg a then -1 else 1) * vm (mag a) := by unfold val; cases neg a <;> simp <;> grind


theorem neg_def (a : Int) : decide (9223372036854775808 ≤ a) = neg a := rfl
theorem make_inf (s : Bool) : word_Make.f s 2047 0 = some (signed s INF) := by
  rw [word_Make_eq s (by decide) (by decide) U_0]; rfl
/-- What Parts answers of a number, zero or not. -/
theorem Parts_fin {a : Int} (ha : U a) (fa : fin a) : ∃ m e, Ev (fun k => word_Parts.f k a) (m, e) ∧ 0 ≤ m ∧ m < 9007199254740992 ∧ -1074 ≤ e ∧ e ≤ 971 ∧ vm (mag a) = (m : Rat) * pw e ∧ (m = 0 ↔ mag a = 0) := by
  have h0 := (mag_lt (a := a)).1
  by_cases z : mag a = 0
  · refine ⟨0, 0, word_Parts_none ha (.inl z), by decide, by decide, by decide, by decide, ?_, by simp [z]⟩
    rw [z, vm_zero]; grind
  · have := fin_expo fa
    have hp := mant_pos (m := mag a) (by omega)
    exact ⟨mant (mag a), expo (mag a), word_Parts_ev ha (show 0 < mag a by omega) fa, by omega, mant_lt, this.1, this.2, rfl, by constructor <;> intro h <;> omega⟩
theorem nan_or {a b : Int} (h : ¬ (isNan a || isNan b) = true) : (isNan a || isNan b) = false ∧ isNan a = false ∧ isNan b = false := by
  cases h1 : isNan a <;> cases h2 : isNan b <;> rw [h1, h2] at h <;> simp at h ⊢
theorem fin_of {a : Int} (h1 : isNan a = false) (h2 : mag a ≠ INF) : fin a := by
  unfold isNan at h1; unfold fin; simp at h1; omega
theorem not_inf {a : Int} (h : fin a) : mag a ≠ INF := by unfold fin at h; omega
/-- The flags are small. -/
theorem RB.flags {x : Rat} {b f : Int} (h : RB x b f) : 0 ≤ f ∧ f ≤ 16 := by
  obtain ⟨q, n, _, _, rfl⟩ := h.ex
  split
  · split
    · omega
    · split <;> omega
  · omega
theorem Rd.flags {x : Rat} {z : Bool} {r f : Int} (h : Rd x z r f) : 0 ≤ f ∧ f ≤ 16 := by
  by_cases hx : x = 0
  · have := (h.zero hx).2; omega
  · obtain ⟨m, rb, _⟩ := h.num hx; exact rb.flags
theorem nanF_le (a b : Int) : 0 ≤ nanF a b ∧ nanF a b ≤ 16 := by unfold nanF; split <;> omega

theorem INF_lt : 0 ≤ INF ∧ INF < 9223372036854775808 := by decide
def sgd (s : Bool) (X : Int) : Int := if s then -X else X
theorem Rd.any {x : Rat} {z z' : Bool} {r f : Int} (h : Rd x z r f) (hx : x ≠ 0) : Rd x z' r f := ⟨fun h => absurd h hx, h.num⟩
theorem int_pw_neg {S E : Int} : (S : Rat) * pw E < 0 ↔ S < 0 := by
  have := mul_pw_lt (a := S) (b := 0) (e := E)
  rw [← this]; simp
theorem int_pw_zero {S E : Int} : (S : Rat) * pw E = 0 ↔ S = 0 := by
  constructor
  · intro h; exact mul_pw_inj (a := S) (b := 0) (e := E) (by rw [h]; simp)
  · intro h; rw [h]; simp
theorem rabs_sgd (s : Bool) {X E : Int} (hX : 0 ≤ X) : rabs ((sgd s X : Rat) * pw E) = (X : Rat) * pw E := by
  have h0 : 0 ≤ (X : Rat) * pw E := by have := mul_pw_le (a := 0) (b := X) (e := E); simpa using this.mpr hX
  have e1 : rabs ((X : Rat) * pw E) = (X : Rat) * pw E := by unfold rabs; rw [if_neg (by grind)]
  unfold sgd
  cases s
  · exact e1
  · show rabs (((-X : Int) : Rat) * pw E) = _
    have e2 : ((-X : Int) : Rat) * pw E = -((X : Rat) * pw E) := by push_cast; grind
    rw [e2, rabs_neg, e1]
/-- The parts as the reference's Mul and Div take them. -/
theorem val_mant (a : Int) : val a = (sgd (neg a) (mant (mag a)) : Rat) * pw (expo (mag a)) := by
  rw [val_eq]; unfold vm sgd; cases neg a <;> simp <;> grind
theorem mant_U (a : Int) : U (mant (mag a)) := ⟨mant_nonneg mag_lt.1, by have := mant_lt (m := mag a); omega⟩
theorem mant_blen (a : Int) : blen (mant (mag a)) ≤ 53 := blen_le (by decide) (by rw [show p2 53 = 9007199254740992 from by decide]; exact mant_lt)
theorem make_zero (s : Bool) : word_Make.f s 0 0 = some (signed s 0) := by
  rw [word_Make_eq s (by decide) (by decide) U_0]; rfl

theorem soft_nan_step {l : List Int} {i n f : Int} {s : Bool} {r : Int × Int × Bool} (h0 : 0 ≤ i) (h1 : i < n) (h2 : i < (l.length : Int)) (hn : n ≤ 1000) (hU : U (rd l i))
    (h : Ev (fun k => soft_nan.l0 k (if signals (rd l i) then 16 else f) (s || isNan (rd l i)) l n (i + 1)) r) : Ev (fun k => soft_nan.l0 k f s l n i) r := by
  refine Ev.succ ?_
  simp only [soft_nan.l0]
  rw [w64 (x := i + 1) (by omega) (by omega)]
  refine Ev.pos h1 (Ev.pos h0 (Ev.pos h2 (Ev.bind (word_Kind_ev hU) ?_)))
  rw [kind_mag]
  by_cases hk : kindOf (mag (rd l i)) = 5
  · refine Ev.pos hk (Ev.bind (word_Signals_ev hU) ?_)
    rw [kind_nan.mp hk] at h
    by_cases hs : signals (rd l i) = true
    · rw [if_pos hs] at h
      refine Ev.pos hs ?_
      rw [Bool.or_true] at h; exact h
    · rw [if_neg hs] at h
      refine Ev.neg hs ?_
      rw [Bool.or_true] at h; exact h
  · refine Ev.neg hk ?_
    have hn : isNan (rd l i) = false := by
      cases hc : isNan (rd l i)
      · rfl
      · exact absurd (kind_nan.mpr hc) hk
    have hs : signals (rd l i) = false := by
      cases hc : signals (rd l i)
      · rfl
      · have := signals_nan hc; rw [hn] at this; cases this
    rw [hn, hs] at h
    simpa using h
theorem soft_nan_end {l : List Int} {i n f : Int} {s : Bool} (h1 : ¬ i < n) : Ev (fun k => soft_nan.l0 k f s l n i) (QNAN, f, s) := by
  refine Ev.succ ?_
  simp only [soft_nan.l0]
  exact Ev.neg h1 (Ev.now _)
theorem soft_nan2 {a b : Int} (ha : U a) (hb : U b) : Ev (fun k => soft_nan.f k [a, b]) (QNAN, nanF a b, isNan a || isNan b) := by
  unfold soft_nan.f
  refine soft_nan_step (by decide) (by simp) (by simp) (by simp) ha ?_
  refine soft_nan_step (by decide) (by simp) (by simp) (by simp) hb ?_
  have e : (if signals (rd [a, b] (0 + 1)) then (16 : Int) else if signals (rd [a, b] 0) then 16 else 0) = nanF a b := by
    show (if signals b then (16 : Int) else if signals a then 16 else 0) = nanF a b
    unfold nanF
    cases signals a <;> cases signals b <;> rfl
  have e2 : (false || isNan (rd [a, b] 0) || isNan (rd [a, b] (0 + 1))) = (isNan a || isNan b) := by
    show (false || isNan a || isNan b) = _
    rw [Bool.false_or]
  rw [e, e2]
  exact soft_nan_end (by simp)

end Gim
