/- Texts of this claim, one behind the other: what the functions answer. -/
import Derived.Test.YtdmhepgfmickdaaDoorRx0
import Derived.Laws.BitsLemmas
set_option linter.constructorNameAsVariable false
set_option linter.unusedSimpArgs false
set_option linter.unusedVariables false
set_option linter.unusedSectionVars false
namespace Gim
set_option linter.unusedVariables false

def pw (e : Int) : Rat := (2 : Rat) ^ e
theorem two_ne : (2 : Rat) ≠ 0 := by decide
theorem pw_pos (e : Int) : 0 < pw e := Rat.zpow_pos (by decide)
theorem pw_ne (e : Int) : pw e ≠ 0 := by have := pw_pos e; grind
theorem pw_add (a b : Int) : pw (a + b) = pw a * pw b := Rat.zpow_add two_ne a b
theorem pw_zero : pw 0 = 1 := Rat.zpow_zero 2
theorem pw_one : pw 1 = 2 := Rat.zpow_one 2
theorem pw_succ (e : Int) : pw (e + 1) = 2 * pw e := by rw [pw_add, pw_one, Rat.mul_comm]
theorem pw_pred (e : Int) : 2 * pw (e - 1) = pw e := by
  have := pw_succ (e - 1)
  rw [Int.sub_add_cancel] at this
  exact this.symm
theorem pw_nat (n : Nat) : pw (n : Int) = ((2 ^ n : Int) : Rat) := by
  unfold pw
  rw [Rat.zpow_natCast]
  push_cast
  rfl
theorem pw_addNat (e : Int) (n : Nat) : pw (e + n) = ((2 ^ n : Int) : Rat) * pw e := by rw [pw_add, pw_nat, Rat.mul_comm]
theorem pw_le_add (e : Int) (n : Nat) : pw e ≤ pw (e + n) := by
  induction n with
  | zero => simp
  | succ n ih =>
    have h := pw_succ (e + n)
    have hp := pw_pos (e + n)
    have e1 : e + ((n + 1 : Nat) : Int) = e + n + 1 := by omega
    rw [e1, h]
    grind
theorem pw_mono {a b : Int} (h : a ≤ b) : pw a ≤ pw b := by
  obtain ⟨n, rfl⟩ : ∃ n : Nat, b = a + n := ⟨(b - a).toNat, by omega⟩
  exact pw_le_add a n
theorem pw_lt {a b : Int} (h : a < b) : 2 * pw a ≤ pw b := by
  rw [← pw_succ]
  exact pw_mono h
theorem pw_le_iff {a b : Int} : pw a ≤ pw b ↔ a ≤ b := by
  constructor
  · intro h
    by_cases hc : a ≤ b
    · exact hc
    · have := pw_lt (Int.not_le.mp hc)
      have := pw_pos b
      grind
  · exact pw_mono
theorem pw_neg_mul (e : Int) : pw (-e) * pw e = 1 := by rw [← pw_add, Int.add_left_neg, pw_zero]

/-- Whole numbers times one power of two: comparisons are those of the whole numbers. -/
theorem mul_pw_le {a b : Int} {e : Int} : (a : Rat) * pw e ≤ b * pw e ↔ a ≤ b := by
  have hp := pw_pos e
  constructor
  · intro h
    exact Rat.intCast_le_intCast.mp (Rat.le_of_mul_le_mul_right h hp)
  · intro h
    exact Rat.mul_le_mul_of_nonneg_right (Rat.intCast_le_intCast.mpr h) (Rat.le_of_lt hp)
theorem mul_pw_lt {a b : Int} {e : Int} : (a : Rat) * pw e < b * pw e ↔ a < b := by
  rw [← Rat.not_le, mul_pw_le, Int.not_le]
theorem mul_pw_inj {a b : Int} {e : Int} (h : (a : Rat) * pw e = b * pw e) : a = b := by
  have h1 := (mul_pw_le (e := e)).mp (by rw [h]; exact Rat.le_refl : (a : Rat) * pw e ≤ b * pw e)
  have h2 := (mul_pw_le (e := e)).mp (by rw [h]; exact Rat.le_refl : (b : Rat) * pw e ≤ a * pw e)
  omega
theorem mul_le_mul_right {a b c : Rat} (h : a ≤ b) (hc : 0 ≤ c) : a * c ≤ b * c := Rat.mul_le_mul_of_nonneg_right h hc

/-- n times 2^q is nearest to x (above 0), of two the even one. -/
structure Rnd (x : Rat) (q n : Int) : Prop where
  hq : -1074 ≤ q
  lo : q = -1074 ∨ (4503599627370496 : Int) * pw q ≤ x
  hi : x < (9007199254740992 : Int) * pw q
  pos : 0 < x
  near1 : 2 * x ≤ (2 * n + 1 : Int) * pw q
  near2 : (2 * n - 1 : Int) * pw q ≤ 2 * x
  tie1 : 2 * x = (2 * n + 1 : Int) * pw q → n % 2 = 0
  tie2 : 2 * x = (2 * n - 1 : Int) * pw q → n % 2 = 0

theorem Rnd.q_le {x y : Rat} {q n q' n' : Int} (h : Rnd x q n) (h' : Rnd y q' n') (hxy : x ≤ y) : q ≤ q' := by
  by_cases hc : q ≤ q'
  · exact hc
  · exfalso
    have hc := Int.not_le.mp hc
    have h1 : (4503599627370496 : Int) * pw q ≤ x := by
      rcases h.lo with h1 | h1
      · have := h'.hq; omega
      · exact h1
    have h2 := h'.hi
    have h3 := pw_lt hc
    push_cast at h1 h2
    grind
theorem Rnd.n_le {x : Rat} {q n : Int} (h : Rnd x q n) : n ≤ 9007199254740992 := by
  have h1 := h.near2
  have h2 := h.hi
  have h3 : (2 * n - 1 : Int) * pw q < (18014398509481984 : Int) * pw q := by push_cast at h1 h2 ⊢; grind
  have := mul_pw_lt.mp h3
  omega
theorem Rnd.n_ge {x : Rat} {q n : Int} (h : Rnd x q n) (hlo : (4503599627370496 : Int) * pw q ≤ x) : 4503599627370496 ≤ n := by
  have h1 := h.near1
  have h3 : (9007199254740992 : Int) * pw q ≤ (2 * n + 1 : Int) * pw q := by push_cast at h1 hlo ⊢; grind
  have := mul_pw_le.mp h3
  omega
theorem Rnd.n_nonneg {x : Rat} {q n : Int} (h : Rnd x q n) : 0 ≤ n := by
  have h1 := h.near1
  have h2 := h.pos
  have h3 : (0 : Int) * pw q < (2 * n + 1 : Int) * pw q := by push_cast at h1 ⊢; grind
  have := mul_pw_lt.mp h3
  omega
theorem Rnd.n_mono {x y : Rat} {q n n' : Int} (h : Rnd x q n) (h' : Rnd y q n') (hxy : x ≤ y) : n ≤ n' := by
  by_cases hc : n ≤ n'
  · exact hc
  · exfalso
    have hc := Int.not_le.mp hc
    have h1 := h.near2
    have h2 := h'.near1
    have h3 : (2 * n - 1 : Int) * pw q ≤ (2 * n' + 1 : Int) * pw q := by grind
    have h4 := mul_pw_le.mp h3
    have e : n = n' + 1 := by omega
    subst e
    have e1 : (2 * (n' + 1) - 1 : Int) = 2 * n' + 1 := by omega
    rw [e1] at h1
    have hx : 2 * x = (2 * n' + 1 : Int) * pw q := by grind
    have hy : 2 * y = (2 * n' + 1 : Int) * pw q := by grind
    have t1 := h'.tie1 hy
    have t2 := h.tie2 (by rw [e1]; exact hx)
    omega
theorem Rnd.unique {x : Rat} {q n q' n' : Int} (h : Rnd x q n) (h' : Rnd x q' n') : q = q' ∧ n = n' := by
  have h1 := h.q_le h' Rat.le_refl
  have h2 := h'.q_le h Rat.le_refl
  obtain rfl : q = q' := by omega
  have h3 := h.n_mono h' Rat.le_refl
  have h4 := h'.n_mono h Rat.le_refl
  omega

/-- The pattern of n times 2^q, where exponents have no upper bound. -/
def enc (q n : Int) : Int := (q + 1074) * 4503599627370496 + n

theorem Rnd.enc_mono {x y : Rat} {q n q' n' : Int} (h : Rnd x q n) (h' : Rnd y q' n') (hxy : x ≤ y) : enc q n ≤ enc q' n' := by
  have h1 := h.q_le h' hxy
  by_cases hc : q = q'
  · subst hc
    have := h.n_mono h' hxy
    unfold enc
    omega
  · have h2 := h.n_le
    have h3 : 4503599627370496 ≤ n' := by
      rcases h'.lo with h3 | h3
      · have := h.hq; omega
      · exact h'.n_ge h3
    unfold enc
    omega
theorem Rnd.enc_nonneg {x : Rat} {q n : Int} (h : Rnd x q n) : 0 ≤ enc q n := by
  have := h.hq; have := h.n_nonneg; unfold enc; omega

/-- A pattern without its sign: its whole number, its power, its value. -/
def mant (m : Int) : Int := if m < 4503599627370496 then m else m % 4503599627370496 + 4503599627370496
def expo (m : Int) : Int := if m < 4503599627370496 then -1074 else m / 4503599627370496 - 1075
def vm (m : Int) : Rat := (mant m : Rat) * pw (expo m)

theorem enc_mant (m : Int) (h : 0 ≤ m) : enc (expo m) (mant m) = m := by
  unfold enc expo mant
  split <;> omega
theorem mant_nonneg {m : Int} (h : 0 ≤ m) : 0 ≤ mant m := by unfold mant; split <;> omega
theorem mant_lt {m : Int} : mant m < 9007199254740992 := by unfold mant; split <;> omega
theorem expo_ge {m : Int} (h : 0 ≤ m) : -1074 ≤ expo m := by unfold expo; split <;> omega
theorem mant_ge {m : Int} (h : 0 ≤ m) : expo m = -1074 ∨ 4503599627370496 ≤ mant m := by unfold expo mant; split <;> omega
theorem vm_zero : vm 0 = 0 := by unfold vm mant; simp
theorem vm_nonneg {m : Int} (h : 0 ≤ m) : 0 ≤ vm m := by
  unfold vm
  have h1 : (0 : Rat) ≤ (mant m : Rat) := by exact_mod_cast mant_nonneg h
  exact Rat.mul_nonneg h1 (Rat.le_of_lt (pw_pos _))
theorem mant_pos {m : Int} (h : 0 < m) : 0 < mant m := by unfold mant; split <;> omega
theorem vm_pos {m : Int} (h : 0 < m) : 0 < vm m := by
  unfold vm
  have h1 : (0 : Rat) < (mant m : Rat) := by exact_mod_cast mant_pos h
  exact Rat.mul_pos h1 (pw_pos _)

/-- A number that is told already is nearest to itself. -/
theorem Rnd.self {q n : Int} (hq : -1074 ≤ q) (hn : 0 < n) (h1 : n < 9007199254740992) (h2 : q = -1074 ∨ 4503599627370496 ≤ n) : Rnd ((n : Rat) * pw q) q n := by
  have hp := pw_pos q
  have hn' : (0 : Rat) < (n : Rat) := by exact_mod_cast hn
  refine ⟨hq, ?_, mul_pw_lt.mpr h1, Rat.mul_pos hn' hp, ?_, ?_, ?_, ?_⟩
  · rcases h2 with h2 | h2
    · exact .inl h2
    · exact .inr (mul_pw_le.mpr h2)
  · push_cast; grind
  · push_cast; grind
  · intro h; push_cast at h; grind
  · intro h; push_cast at h; grind
theorem Rnd.of_vm {m : Int} (h : 0 < m) : Rnd (vm m) (expo m) (mant m) :=
  Rnd.self (expo_ge (Int.le_of_lt h)) (mant_pos h) mant_lt (mant_ge (Int.le_of_lt h))

theorem vm_mono {m m' : Int} (h0 : 0 ≤ m) (h : m ≤ m') : vm m ≤ vm m' := by
  by_cases hm : m = 0
  · subst hm; rw [vm_zero]; exact vm_nonneg (by omega)
  · by_cases hc : vm m ≤ vm m'
    · exact hc
    · have h1 := (Rnd.of_vm (m := m') (by omega)).enc_mono (Rnd.of_vm (m := m) (by omega)) (Rat.le_of_lt (Rat.not_le.mp hc))
      rw [enc_mant _ (by omega), enc_mant _ (by omega)] at h1
      obtain rfl : m = m' := by omega
      exact Rat.le_refl
theorem vm_le_iff {m m' : Int} (h0 : 0 ≤ m) (h0' : 0 ≤ m') : vm m ≤ vm m' ↔ m ≤ m' := by
  constructor
  · intro h
    by_cases hm : m = 0
    · omega
    · by_cases hm' : m' = 0
      · subst hm'; rw [vm_zero] at h; have := vm_pos (m := m) (by omega); grind
      · have h1 := (Rnd.of_vm (m := m) (by omega)).enc_mono (Rnd.of_vm (m := m') (by omega)) h
        rwa [enc_mant _ (by omega), enc_mant _ (by omega)] at h1
  · exact vm_mono h0
theorem vm_lt_iff {m m' : Int} (h0 : 0 ≤ m) (h0' : 0 ≤ m') : vm m < vm m' ↔ m < m' := by
  rw [← Rat.not_le, vm_le_iff h0' h0, Int.not_le]

/-- The value of what comes of rounding. -/
theorem vm_enc {q n : Int} (hq : -1074 ≤ q) (hn : 0 ≤ n) (h1 : n ≤ 9007199254740992) (h2 : q = -1074 ∨ 4503599627370496 ≤ n) : vm (enc q n) = (n : Rat) * pw q := by
  unfold vm
  by_cases ha : n < 4503599627370496
  · obtain rfl : q = -1074 := by omega
    have e : enc (-1074) n = n := by unfold enc; omega
    rw [e]
    unfold mant expo
    rw [if_pos ha, if_pos ha]
  · by_cases hb : n = 9007199254740992
    · subst hb
      have e1 : mant (enc q 9007199254740992) = 4503599627370496 := by unfold mant enc; rw [if_neg (by omega)]; omega
      have e2 : expo (enc q 9007199254740992) = q + 1 := by unfold expo enc; rw [if_neg (by omega)]; omega
      rw [e1, e2, pw_succ]
      push_cast
      grind
    · have e1 : mant (enc q n) = n := by unfold mant enc; rw [if_neg (by omega)]; omega
      have e2 : expo (enc q n) = q := by unfold expo enc; rw [if_neg (by omega)]; omega
      rw [e1, e2]
theorem Rnd.n_ge' {x : Rat} {q n : Int} (h : Rnd x q n) : q = -1074 ∨ 4503599627370496 ≤ n := by
  rcases h.lo with h1 | h1
  · exact .inl h1
  · exact .inr (h.n_ge h1)
theorem Rnd.val_enc {x : Rat} {q n : Int} (h : Rnd x q n) : vm (enc q n) = (n : Rat) * pw q :=
  vm_enc h.hq h.n_nonneg h.n_le h.n_ge'

/-- What rounding answers: a pattern without sign, and flags. -/
def INF : Int := 9218868437227405312
structure RB (x : Rat) (b f : Int) : Prop where
  ex : ∃ q n, Rnd x q n ∧ b = (if enc q n < INF then enc q n else INF) ∧
    f = if enc q n < INF then (if x = (n : Rat) * pw q then 0 else if x < pw (-1022) then 3 else 1) else 5

theorem RB.unique {x : Rat} {b f b' f' : Int} (h : RB x b f) (h' : RB x b' f') : b = b' ∧ f = f' := by
  obtain ⟨q, n, hr, rfl, rfl⟩ := h.ex
  obtain ⟨q', n', hr', rfl, rfl⟩ := h'.ex
  obtain ⟨rfl, rfl⟩ := hr.unique hr'
  exact ⟨rfl, rfl⟩
theorem RB.mono {x y : Rat} {b f b' f' : Int} (h : RB x b f) (h' : RB y b' f') (hxy : x ≤ y) : b ≤ b' := by
  obtain ⟨q, n, hr, rfl, rfl⟩ := h.ex
  obtain ⟨q', n', hr', rfl, rfl⟩ := h'.ex
  have := hr.enc_mono hr' hxy
  split <;> split <;> omega
theorem RB.range {x : Rat} {b f : Int} (h : RB x b f) : 0 ≤ b ∧ b ≤ INF := by
  obtain ⟨q, n, hr, rfl, rfl⟩ := h.ex
  have := hr.enc_nonneg
  unfold INF
  split <;> omega
/-- A number is rounded to itself. -/
theorem RB.self {m : Int} (h : 0 < m) (hm : m < INF) : RB (vm m) m 0 := by
  refine ⟨expo m, mant m, Rnd.of_vm h, ?_, ?_⟩
  · rw [enc_mant m (by omega), if_pos hm]
  · rw [enc_mant m (by omega), if_pos hm]; exact (if_pos rfl).symm
end Gim
namespace Gim
open Go Go.RowKit Go.Proofs.YtdmhepgfmickdaaDoorW.PrintWords Go.Proofs.YtdmhepgfmickdaaDoorW.PrintLast Go.Proofs.YtdmhepgfmickdaaDoorW.PrintMore
set_option linter.unusedVariables false

theorem w64 {x : Int} (h1 : -9223372036854775808 ≤ x) (h2 : x ≤ 9223372036854775807) : wrap64 x = x := by unfold wrap64; omega
theorem wu64 {x : Int} (h1 : 0 ≤ x) (h2 : x < 18446744073709551616) : IntKind.u64.wrap x = x := by
  simp [IntKind.wrap, IntKind.bits, IntKind.signed]; omega
theorem wu64_mod (x : Int) : IntKind.u64.wrap x = x % 18446744073709551616 := by
  simp [IntKind.wrap, IntKind.bits, IntKind.signed]
theorem wraps_u64 (n : Int) (h₀ : 0 ≤ n) (h₁ : n < 2 ^ 64) : IntKind.u64.wrap n = n := wu64 h₀ (by simpa using h₁)
theorem wraps_i64 (n : Int) (h₀ : 0 ≤ n) (h₁ : n < 2 ^ 63) : IntKind.i64.wrap n = n := by
  rw [IntKind.wrap_i64]; have : n < 9223372036854775808 := by simpa using h₁
  omega
theorem u64_and (i : Nat) (hi : i ≤ 64) {x : Int} (h₀ : 0 ≤ x) (h₁ : x < 18446744073709551616) : bits .and .u64 x (2 ^ i - 1) = x % 2 ^ i :=
  bits_mask .u64 64 (by decide) wraps_u64 i hi x h₀ (by simpa using h₁)
theorem u64_and1 {x : Int} (h₀ : 0 ≤ x) (h₁ : x < 18446744073709551616) : bits .and .u64 x 1 = x % 2 := u64_and 1 (by decide) h₀ h₁
theorem u64_and2047 {x : Int} (h₀ : 0 ≤ x) (h₁ : x < 18446744073709551616) : bits .and .u64 x 2047 = x % 2048 := u64_and 11 (by decide) h₀ h₁
theorem u64_and52 {x : Int} (h₀ : 0 ≤ x) (h₁ : x < 18446744073709551616) : bits .and .u64 x 4503599627370495 = x % 4503599627370496 := u64_and 52 (by decide) h₀ h₁
theorem u64_and32 {x : Int} (h₀ : 0 ≤ x) (h₁ : x < 18446744073709551616) : bits .and .u64 x 4294967295 = x % 4294967296 := u64_and 32 (by decide) h₀ h₁
theorem u64_or (i : Nat) {x y : Int} (hx₀ : 0 ≤ x) (hx : x % 2 ^ i = 0) (hx₁ : x < 18446744073709551616) (hy₀ : 0 ≤ y) (hy : y < 2 ^ i) (hy₁ : y < 18446744073709551616) : bits .or .u64 x y = x + y :=
  bits_join .u64 64 (by decide) wraps_u64 i x y hx₀ hx (by simpa using hx₁) hy₀ hy (by simpa using hy₁)
theorem bits_or_comm (k : IntKind) (x y : Int) : bits .or k x y = bits .or k y x := by
  unfold bits
  simp [BitVec.or_comm]
theorem u64_or' (i : Nat) {x y : Int} (hx₀ : 0 ≤ x) (hx : x % 2 ^ i = 0) (hx₁ : x < 18446744073709551616) (hy₀ : 0 ≤ y) (hy : y < 2 ^ i) (hy₁ : y < 18446744073709551616) : bits .or .u64 y x = x + y := by
  rw [bits_or_comm]; exact u64_or i hx₀ hx hx₁ hy₀ hy hy₁
theorem u64_or_zero {x y : Int} (hx₀ : 0 ≤ x) (hx₁ : x < 18446744073709551616) (hy₀ : 0 ≤ y) (hy₁ : y < 18446744073709551616) : (bits .or .u64 x y == 0) = (x == 0 && y == 0) := by
  obtain ⟨a, rfl⟩ := Int.eq_ofNat_of_zero_le hx₀
  obtain ⟨b, rfl⟩ := Int.eq_ofNat_of_zero_le hy₀
  rw [(bits_nat .u64 64 (by decide) wraps_u64 a b (by omega) (by omega)).2]
  rw [Bool.eq_iff_iff]
  simp [Nat.or_eq_zero_iff]
theorem u64_top {x : Int} (h₀ : 0 ≤ x) (h₁ : x < 18446744073709551616) : bits .andNot .u64 x 9223372036854775808 = x % 9223372036854775808 := by
  have e : bits .andNot .u64 x 9223372036854775808 = bits .and .u64 x (2 ^ 63 - 1) := by
    unfold bits
    simp only []
    congr 3
  rw [e, u64_and 63 (by decide) h₀ h₁]
  rfl
theorem u64_xor {x : Int} (h₀ : 0 ≤ x) (h₁ : x < 18446744073709551616) : bits .xor .u64 x 9223372036854775808 = if x < 9223372036854775808 then x + 9223372036854775808 else x - 9223372036854775808 := by
  obtain ⟨a, rfl⟩ := Int.eq_ofNat_of_zero_le h₀
  have e : bits .xor .u64 (a : Int) 9223372036854775808 = IntKind.u64.wrap ((a ^^^ 9223372036854775808 : Nat) : Int) := by
    have e0 : bits .xor .u64 (a : Int) 9223372036854775808 = IntKind.u64.wrap ((BitVec.ofInt 64 (a : Int) ^^^ BitVec.ofInt 64 9223372036854775808).toNat : Int) := rfl
    rw [e0, BitVec.toNat_xor, BitVec.ofInt_natCast, BitVec.toNat_ofNat, show a % 2 ^ 64 = a from Nat.mod_eq_of_lt (by omega)]
    rfl
  have k : (a ^^^ 9223372036854775808 : Nat) = if a < 9223372036854775808 then a + 9223372036854775808 else a - 9223372036854775808 := by
    split
    · rename_i hc
      have := Nat.two_pow_add_eq_or_of_lt (i := 63) (b := a) (by omega) 1
      have h2 : (9223372036854775808 : Nat) ^^^ a = 9223372036854775808 ||| a := by
        apply Nat.eq_of_testBit_eq
        intro i
        simp only [Nat.testBit_xor, Nat.testBit_or]
        by_cases hi : i = 63
        · subst hi
          have : a.testBit 63 = false := Nat.testBit_lt_two_pow (by omega)
          simp [this]
        · have : (9223372036854775808 : Nat).testBit i = false := by
            have : (9223372036854775808 : Nat) = 2 ^ 63 := by decide
            rw [this, Nat.testBit_two_pow]
            simp; omega
          simp [this]
      rw [Nat.xor_comm, h2]
      have h3 : (2 ^ 63 * 1 : Nat) = 9223372036854775808 := by decide
      rw [h3] at this
      omega
    · rename_i hc
      obtain ⟨b, rfl, hb⟩ : ∃ b, a = 9223372036854775808 + b ∧ b < 9223372036854775808 := ⟨a - 9223372036854775808, by omega, by omega⟩
      have := Nat.two_pow_add_eq_or_of_lt (i := 63) (b := b) (by omega) 1
      have h4 : (2 ^ 63 * 1 : Nat) = 9223372036854775808 := by decide
      rw [h4] at this
      have h2 : (9223372036854775808 : Nat) + b = 9223372036854775808 ||| b := by omega
      have h3 : (9223372036854775808 ||| b) ^^^ 9223372036854775808 = b := by
        apply Nat.eq_of_testBit_eq
        intro i
        simp only [Nat.testBit_xor, Nat.testBit_or]
        by_cases hi : i = 63
        · subst hi
          have h0 : b.testBit 63 = false := Nat.testBit_lt_two_pow (by omega)
          have h1 : (9223372036854775808 : Nat).testBit 63 = true := by decide
          simp [h0, h1]
        · have : (9223372036854775808 : Nat).testBit i = false := by
            have : (9223372036854775808 : Nat) = 2 ^ 63 := by decide
            rw [this, Nat.testBit_two_pow]
            simp; omega
          simp [this]
      rw [h2, h3]; omega
  rw [e, k]
  split
  · rw [wu64 (by omega) (by omega)]; split <;> omega
  · rw [wu64 (by omega) (by omega)]; split <;> omega
theorem i64_and (i : Nat) (hi : i ≤ 62) (x : Int) : bits .and .i64 x (2 ^ i - 1) = x % 2 ^ i := by
  have hpos : 0 < 2 ^ i := Nat.two_pow_pos i
  have hle : 2 ^ i ≤ 2 ^ 62 := Nat.pow_le_pow_right (by decide) hi
  have hc : ((2 : Int) ^ i - 1) = ((2 ^ i - 1 : Nat) : Int) := by
    rw [Int.natCast_sub hpos]; simp
  have e : bits .and .i64 x (2 ^ i - 1) = IntKind.i64.wrap (((x % 18446744073709551616).toNat % 2 ^ i : Nat) : Int) := by
    rw [hc]
    have e0 : bits .and .i64 x ((2 ^ i - 1 : Nat) : Int) = IntKind.i64.wrap ((BitVec.ofInt 64 x &&& BitVec.ofInt 64 ((2 ^ i - 1 : Nat) : Int)).toNat : Int) := rfl
    rw [e0, BitVec.toNat_and, BitVec.ofInt_natCast, BitVec.toNat_ofNat, BitVec.toNat_ofInt,
      Nat.mod_eq_of_lt (a := 2 ^ i - 1) (by have : 2 ^ 62 < 2 ^ 64 := by decide
                                            omega), Nat.and_two_pow_sub_one_eq_mod]
    rfl
  have hb : ((x % 18446744073709551616).toNat % 2 ^ i : Nat) < 2 ^ 62 := Nat.lt_of_lt_of_le (Nat.mod_lt _ hpos) hle
  have hb' : ((x % 18446744073709551616).toNat % 2 ^ i : Nat) < 4611686018427387904 := hb
  rw [e, wraps_i64 _ (by omega) (by omega)]
  have hm : 0 ≤ x % 18446744073709551616 := by omega
  have hp : ((2 ^ i : Nat) : Int) = 2 ^ i := by simp
  rw [Int.natCast_emod, Int.toNat_of_nonneg hm, hp]
  refine Int.emod_emod_of_dvd x ⟨2 ^ (64 - i), ?_⟩
  rw [← Int.pow_add, show i + (64 - i) = 64 from by omega]
  rfl

/-- From some number of rounds on. -/
theorem Ev.succ {α : Type} {g : Nat → Option α} {r : α} (h : Ev (fun k => g (k + 1)) r) : Ev g r := by
  obtain ⟨K, hK⟩ := h
  exact ⟨K + 1, fun k hk => by obtain ⟨j, rfl⟩ : ∃ j, k = j + 1 := ⟨k - 1, by omega⟩; exact hK j (by omega)⟩
theorem Ev.pos {α : Type} {c : Prop} [Decidable c] {a b : Nat → Option α} {r : α} (h : c) (k : Ev a r) : Ev (fun n => if c then a n else b n) r := by
  obtain ⟨K, hK⟩ := k
  exact ⟨K, fun n hn => by show (if c then a n else b n) = some r; rw [if_pos h]; exact hK n hn⟩
theorem Ev.neg {α : Type} {c : Prop} [Decidable c] {a b : Nat → Option α} {r : α} (h : ¬ c) (k : Ev b r) : Ev (fun n => if c then a n else b n) r := by
  obtain ⟨K, hK⟩ := k
  exact ⟨K, fun n hn => by show (if c then a n else b n) = some r; rw [if_neg h]; exact hK n hn⟩
theorem Ev.call {α β : Type} {g : Option α} {f : Nat → α → Option β} {a : α} {r : β} (h : g = some a) (k : Ev (fun n => f n a) r) : Ev (fun n => g.bind (f n)) r := by
  obtain ⟨K, hK⟩ := k
  exact ⟨K, fun n hn => by show g.bind (f n) = some r; rw [h]; exact hK n hn⟩
theorem Ev.same {α : Type} {g f : Nat → Option α} {r : α} (h : ∀ k, g k = f k) (k : Ev f r) : Ev g r := by
  obtain ⟨K, hK⟩ := k
  exact ⟨K, fun n hn => by rw [h n]; exact hK n hn⟩
theorem Ev.det {α : Type} {g : Nat → Option α} {r q : α} (h : Ev g r) (k : Ev g q) : r = q := by
  obtain ⟨K, hK⟩ := h
  obtain ⟨L, hL⟩ := k
  have h1 := hK (K + L) (by omega)
  rw [hL (K + L) (by omega)] at h1
  exact (Option.some.inj h1).symm
theorem mul_bound {a b m n : Int} (ha : 0 ≤ a) (hb : 0 ≤ b) (hm : a ≤ m) (hn : b ≤ n) : 0 ≤ a * b ∧ a * b ≤ m * n := by
  refine ⟨Int.mul_nonneg ha hb, ?_⟩
  exact Int.mul_le_mul hm hn hb (by omega)
def sgn (x : Int) : Int := if x < 0 then -1 else if x = 0 then 0 else 1

end Gim
namespace Gim
open Go Go.RowKit Go.Proofs.YtdmhepgfmickdaaDoorW.PrintWords Go.Proofs.YtdmhepgfmickdaaDoorW.PrintLast Go.Proofs.YtdmhepgfmickdaaDoorW.PrintMore Go.Proofs.YtdmhepgfmickdaaDoor.F
set_option linter.unusedVariables false

/-- A word of 64 bits. -/
def U (a : Int) : Prop := 0 ≤ a ∧ a < 18446744073709551616
/-- What a pattern without its sign stands for. -/
def kindOf (m : Int) : Int := if m = 0 then 1 else if m < 4503599627370496 then 2 else if m < 9218868437227405312 then 3 else if m = 9218868437227405312 then 4 else 5
def flip (a : Int) : Int := if a < 9223372036854775808 then a + 9223372036854775808 else a - 9223372036854775808

theorem word_Neg_eq {a : Int} (h : U a) : word_Neg.f a = some (decide (9223372036854775808 ≤ a)) := by
  obtain ⟨h0, h1⟩ := h
  unfold word_Neg.f
  congr 1
  rw [Bool.eq_iff_iff]
  simp
  omega
theorem word_Abs_eq {a : Int} (h : U a) : word_Abs.f a = some (a % 9223372036854775808) := by
  unfold word_Abs.f; rw [u64_top h.1 h.2]
theorem word_Exp_eq {a : Int} (h : U a) : word_Exp.f a = some (a / 4503599627370496 % 2048) := by
  obtain ⟨h0, h1⟩ := h
  unfold word_Exp.f
  rw [u64_and2047 (by omega) (by omega), w64 (by omega) (by omega)]
theorem word_Frac_eq {a : Int} (h : U a) : word_Frac.f a = some (a % 4503599627370496) := by
  unfold word_Frac.f; rw [u64_and52 h.1 h.2]
theorem kind1 {m : Int} : kindOf m = 1 ↔ m = 0 := by unfold kindOf; grind
theorem kind2 {m : Int} (h : 0 ≤ m) : kindOf m = 2 ↔ 0 < m ∧ m < 4503599627370496 := by unfold kindOf; grind
theorem kind3 {m : Int} (h : 0 ≤ m) : kindOf m = 3 ↔ 4503599627370496 ≤ m ∧ m < 9218868437227405312 := by unfold kindOf; grind
theorem kind4 {m : Int} (h : 0 ≤ m) : kindOf m = 4 ↔ m = 9218868437227405312 := by unfold kindOf; grind
theorem kind5 {m : Int} (h : 0 ≤ m) : kindOf m = 5 ↔ 9218868437227405312 < m := by unfold kindOf; grind
theorem mag_nonneg (a : Int) : 0 ≤ a % 9223372036854775808 := by omega
theorem word_Kind_ev {a : Int} (h : U a) : Ev (fun k => word_Kind.f k a) (kindOf (a % 9223372036854775808)) := by
  have hh := h
  obtain ⟨h0, h1⟩ := h
  unfold word_Kind.f
  refine Ev.call (word_Exp_eq hh) (Ev.call (word_Frac_eq hh) ?_)
  have hm := mag_nonneg a
  by_cases hE : a / 4503599627370496 % 2048 = 0
  · refine Ev.pos hE (Ev.succ ?_)
    simp only [word_Kind.j0]
    by_cases hF : a % 4503599627370496 = 0
    · rw [kind1.mpr (by omega)]
      exact Ev.pos (by simpa using hF) (Ev.now _)
    · rw [(kind2 hm).mpr (by omega)]
      exact Ev.neg (by simpa using hF) (Ev.pos hE (Ev.now _))
  · refine Ev.neg hE (Ev.succ ?_)
    simp only [word_Kind.j0]
    refine Ev.neg (by simp) (Ev.neg hE ?_)
    by_cases hN : a / 4503599627370496 % 2048 < 2047
    · rw [(kind3 hm).mpr (by omega)]
      exact Ev.pos hN (Ev.now _)
    · refine Ev.neg hN ?_
      by_cases hF : a % 4503599627370496 = 0
      · rw [(kind4 hm).mpr (by omega)]
        exact Ev.pos hF (Ev.now _)
      · rw [(kind5 hm).mpr (by omega)]
        exact Ev.neg hF (Ev.now _)
/-- Is it no number that signals? -/
def signals (a : Int) : Bool := decide (9218868437227405312 < a % 9223372036854775808) && decide (a / 2251799813685248 % 2 = 0)
theorem word_Signals_ev {a : Int} (h : U a) : Ev (fun k => word_Signals.f k a) (signals a) := by
  have hh := h
  obtain ⟨h0, h1⟩ := h
  unfold word_Signals.f
  refine Ev.bind (word_Kind_ev hh) ?_
  have hm := mag_nonneg a
  by_cases hk : 9218868437227405312 < a % 9223372036854775808
  · refine Ev.pos ((kind5 hm).mpr hk) ?_
    rw [u64_and1 (by omega) (by omega)]
    have e : signals a = (a / 2251799813685248 % 2 == 0) := by
      unfold signals
      rw [decide_eq_true hk, Bool.true_and, Bool.eq_iff_iff]
      simp
    rw [e]
    exact Ev.now _
  · refine Ev.neg (fun hc => hk ((kind5 hm).mp hc)) ?_
    have e : signals a = false := by unfold signals; rw [decide_eq_false hk, Bool.false_and]
    rw [e]
    exact Ev.now _
/-- A number that isn't zero. -/
theorem word_Parts_ev {a : Int} (h : U a) (h1 : 0 < a % 9223372036854775808) (h2 : a % 9223372036854775808 < 9218868437227405312) :
    Ev (fun k => word_Parts.f k a) (mant (a % 9223372036854775808), expo (a % 9223372036854775808)) := by
  have hh := h
  obtain ⟨h0, h3⟩ := h
  unfold word_Parts.f
  refine Ev.bind (word_Kind_ev hh) ?_
  have hm := mag_nonneg a
  by_cases hs : a % 9223372036854775808 < 4503599627370496
  · refine Ev.pos ((kind2 hm).mpr ⟨h1, hs⟩) (Ev.call (word_Frac_eq hh) ?_)
    have e1 : mant (a % 9223372036854775808) = a % 4503599627370496 := by unfold mant; rw [if_pos hs]; omega
    have e2 : expo (a % 9223372036854775808) = -1074 := by unfold expo; rw [if_pos hs]
    rw [e1, e2]
    exact Ev.now _
  · have k3 := (kind3 hm).mpr ⟨by omega, h2⟩
    refine Ev.neg (by rw [k3]; decide) (Ev.pos k3 (Ev.call (word_Frac_eq hh) (Ev.call (word_Exp_eq hh) ?_)))
    have e1 : bits .or .u64 (a % 4503599627370496) 4503599627370496 = 4503599627370496 + a % 4503599627370496 := u64_or' 52 (by omega) (by decide) (by omega) (by omega) (by simp; omega) (by omega)
    rw [e1, w64 (by omega) (by omega)]
    have e2 : mant (a % 9223372036854775808) = 4503599627370496 + a % 4503599627370496 := by unfold mant; rw [if_neg hs]; omega
    have e3 : expo (a % 9223372036854775808) = a / 4503599627370496 % 2048 - 1075 := by unfold expo; rw [if_neg hs]; omega
    rw [e2, e3]
    exact Ev.now _
theorem word_Parts_none {a : Int} (h : U a) (h1 : a % 9223372036854775808 = 0 ∨ 9218868437227405312 ≤ a % 9223372036854775808) : Ev (fun k => word_Parts.f k a) (0, 0) := by
  have hh := h
  unfold word_Parts.f
  refine Ev.bind (word_Kind_ev hh) ?_
  have hm := mag_nonneg a
  exact Ev.neg (fun hc => by have := (kind2 hm).mp hc; omega) (Ev.neg (fun hc => by have := (kind3 hm).mp hc; omega) (Ev.now _))

def signed (neg : Bool) (m : Int) : Int := if neg then m + 9223372036854775808 else m
theorem word_Make_eq (neg : Bool) {e f : Int} (he : 0 ≤ e) (he' : e < 2048) (hf : U f) : word_Make.f neg e f = some (signed neg (e * 4503599627370496 + f % 4503599627370496)) := by
  obtain ⟨h0, h1⟩ := hf
  unfold word_Make.f signed
  have p52 : (2 : Int) ^ 52 = 4503599627370496 := by decide
  have p63 : (2 : Int) ^ 63 = 9223372036854775808 := by decide
  have e1 : IntKind.u64.wrap e = e := wu64 he (by omega)
  rw [e1, u64_and2047 he (by omega), u64_and52 h0 h1, show e % 2048 = e from by omega, wu64 (by omega) (by omega)]
  have e2 : bits .or .u64 (e * 4503599627370496) (f % 4503599627370496) = e * 4503599627370496 + f % 4503599627370496 :=
    u64_or 52 (by omega) (by rw [p52]; omega) (by omega) (by omega) (by rw [p52]; omega) (by omega)
  rw [e2]
  cases neg
  · simp
  · simp only [if_true]
    rw [u64_or' 63 (by omega) (by rw [p63]; omega) (by omega) (by omega) (by rw [p63]; omega) (by omega), Int.add_comm]

/-- Two words as one number. -/
def wv (h l : Int) : Int := h * 18446744073709551616 + l
/-- A power of two, as a whole number. -/
def p2 (n : Int) : Int := 2 ^ n.toNat
theorem p2_pos (n : Int) : 0 < p2 n := Int.pow_pos (by decide)
theorem p2_add {a b : Int} (ha : 0 ≤ a) (hb : 0 ≤ b) : p2 (a + b) = p2 a * p2 b := by
  unfold p2
  rw [Int.toNat_add ha hb, Int.pow_add]
theorem p2_0 : p2 0 = 1 := rfl
theorem p2_1 : p2 1 = 2 := rfl
theorem p2_64 : p2 64 = 18446744073709551616 := by decide
theorem p2_128 : p2 128 = 340282366920938463463374607431768211456 := by decide
theorem p2_le {a b : Int} (h : a ≤ b) : p2 a ≤ p2 b := by
  unfold p2
  have : a.toNat ≤ b.toNat := by omega
  exact_mod_cast Nat.pow_le_pow_right (by decide : 0 < 2) this
theorem p2_succ {a : Int} (h : 0 ≤ a) : p2 (a + 1) = 2 * p2 a := by rw [p2_add h (by decide), p2_1, Int.mul_comm]
theorem p2_neg {a : Int} (h : a ≤ 0) : p2 a = 1 := by unfold p2; rw [show a.toNat = 0 from by omega]; rfl
theorem pw_p2 {a : Int} (h : 0 ≤ a) : pw a = (p2 a : Rat) := by
  obtain ⟨n, rfl⟩ := Int.eq_ofNat_of_zero_le h
  rw [pw_nat]
  rfl

theorem wv_range {h l : Int} (hh : U h) (hl : U l) : 0 ≤ wv h l ∧ wv h l < 340282366920938463463374607431768211456 := by
  obtain ⟨a, b⟩ := hh; obtain ⟨c, d⟩ := hl; unfold wv; omega
theorem wv_inj {h l h' l' : Int} (hh : U h) (hl : U l) (hh' : U h') (hl' : U l') (e : wv h l = wv h' l') : h = h' ∧ l = l' := by
  obtain ⟨a, b⟩ := hh; obtain ⟨c, d⟩ := hl; obtain ⟨a', b'⟩ := hh'; obtain ⟨c', d'⟩ := hl'; unfold wv at e; omega

theorem shl_u64 {x n : Int} (hn : 0 ≤ n) (hn' : n ≤ 64) : shl .u64 x n = x * p2 n % 18446744073709551616 := by
  unfold shl p2
  rw [wu64_mod, show min n.toNat (IntKind.bits .u64) = n.toNat from Nat.min_eq_left (by simp [IntKind.bits]; omega)]
theorem shr_u64 {x n : Int} (hn : 0 ≤ n) (hn' : n ≤ 64) : shr .u64 x n = x / p2 n := by
  unfold shr p2
  rw [show min n.toNat (IntKind.bits .u64) = n.toNat from Nat.min_eq_left (by simp [IntKind.bits]; omega)]

theorem wide_Zero_eq {h l : Int} (hh : U h) (hl : U l) : wide_Wide_Zero.f h l = some (decide (wv h l = 0)) := by
  unfold wide_Wide_Zero.f
  rw [u64_or_zero hh.1 hh.2 hl.1 hl.2]
  congr 1
  rw [Bool.eq_iff_iff]
  obtain ⟨a, b⟩ := hh; obtain ⟨c, d⟩ := hl
  unfold wv
  simp
  omega

/-- What lies in two words below and above a cut at n bits. -/
theorem part_lt {x P Q : Int} (hx : U x) (hP : 0 < P) (hQ : 0 < Q) (h : P * Q = 18446744073709551616) : 0 ≤ x / Q ∧ x / Q < P ∧ 0 ≤ x % Q ∧ x % Q < Q ∧ x = x / Q * Q + x % Q := by
  obtain ⟨h0, h1⟩ := hx
  have e := Int.mul_ediv_add_emod x Q
  have r0 := Int.emod_nonneg x (Int.ne_of_gt hQ)
  have r1 := Int.emod_lt_of_pos x hQ
  refine ⟨Int.ediv_nonneg h0 (Int.le_of_lt hQ), ?_, r0, r1, by rw [Int.mul_comm]; exact e.symm⟩
  exact Int.ediv_lt_of_lt_mul hQ (by rw [h]; exact h1)

theorem mul_mod_cut {x P Q : Int} (hx : U x) (hP : 0 < P) (hQ : 0 < Q) (h : P * Q = 18446744073709551616) : x * P % 18446744073709551616 = x % Q * P ∧ 0 ≤ x % Q * P ∧ x % Q * P ≤ 18446744073709551616 - P := by
  obtain ⟨a0, a1, b0, b1, e⟩ := part_lt hx hP hQ h
  have h2 : 0 ≤ x % Q * P := Int.mul_nonneg b0 (Int.le_of_lt hP)
  have h3 : x % Q * P ≤ 18446744073709551616 - P := by
    have : x % Q * P ≤ (Q - 1) * P := Int.mul_le_mul_of_nonneg_right (by omega) (Int.le_of_lt hP)
    have e2 : (Q - 1) * P = 18446744073709551616 - P := by rw [← h]; grind
    omega
  refine ⟨?_, h2, h3⟩
  have e3 : x * P = x / Q * 18446744073709551616 + x % Q * P := by
    rw [← h]; generalize x / Q = A at *; generalize x % Q = B at *; subst e; grind
  rw [e3]
  omega

theorem wide_Left_eq {h l n : Int} (hh : U h) (hl : U l) (hn : n ≤ 4611686018427387904) : ∃ h' l', wide_Wide_Left.f h l n = some (h', l') ∧ U h' ∧ U l' ∧ wv h' l' = wv h l * p2 n % 340282366920938463463374607431768211456 := by
  have hv := wv_range hh hl
  unfold wide_Wide_Left.f
  by_cases h1 : n ≤ 0
  · rw [if_pos h1]
    refine ⟨h, l, rfl, hh, hl, ?_⟩
    rw [p2_neg h1]
    omega
  · rw [if_neg h1]
    by_cases h2 : n ≥ 128
    · rw [if_pos h2]
      refine ⟨0, 0, rfl, ⟨by decide, by decide⟩, ⟨by decide, by decide⟩, ?_⟩
      have e : p2 n = p2 128 * p2 (n - 128) := by rw [← p2_add (by omega) (by omega)]; congr 1; omega
      rw [e, p2_128]
      have : wv h l * (340282366920938463463374607431768211456 * p2 (n - 128)) = 340282366920938463463374607431768211456 * (wv h l * p2 (n - 128)) := by grind
      rw [this, Int.mul_emod_right]
      rfl
    · rw [if_neg h2]
      by_cases h3 : n ≥ 64
      · rw [if_pos h3, w64 (by omega) (by omega), if_pos (by omega), shl_u64 (by omega) (by omega)]
        refine ⟨_, _, rfl, ⟨by omega, by omega⟩, ⟨by decide, by decide⟩, ?_⟩
        have e : p2 n = 18446744073709551616 * p2 (n - 64) := by rw [← p2_64, ← p2_add (by omega) (by omega)]; congr 1; omega
        rw [e]
        have e2 : wv h l * (18446744073709551616 * p2 (n - 64)) = 340282366920938463463374607431768211456 * (h * p2 (n - 64)) + (l * p2 (n - 64)) * 18446744073709551616 := by unfold wv; grind
        rw [e2]
        generalize h * p2 (n - 64) = X
        generalize l * p2 (n - 64) = Y
        unfold wv
        omega
      · rw [if_neg h3, if_pos (by omega), w64 (by omega) (by omega), if_pos (by omega), shl_u64 (by omega) (by omega), shl_u64 (by omega) (by omega), shr_u64 (by omega) (by omega)]
        have hP := p2_pos n
        have hQ := p2_pos (64 - n)
        have hPQ : p2 n * p2 (64 - n) = 18446744073709551616 := by rw [← p2_64, ← p2_add (by omega) (by omega)]; congr 1; omega
        obtain ⟨c0, c1, d0, d1, el⟩ := part_lt hl hP hQ hPQ
        obtain ⟨a0, a1, b0, b1, eh⟩ := part_lt hh hP hQ hPQ
        obtain ⟨mh, mh0, mh1⟩ := mul_mod_cut hh hP hQ hPQ
        obtain ⟨ml, ml0, ml1⟩ := mul_mod_cut hl hP hQ hPQ
        rw [mh, ml]
        have hmod : h % p2 (64 - n) * p2 n % 2 ^ n.toNat = 0 := by
          show h % p2 (64 - n) * p2 n % p2 n = 0
          exact Int.mul_emod_left _ _
        rw [u64_or n.toNat mh0 hmod (by omega) c0 c1 (by omega)]
        refine ⟨_, _, rfl, ⟨by omega, by omega⟩, ⟨by omega, by omega⟩, ?_⟩
        have e : wv h l * p2 n = h / p2 (64 - n) * 340282366920938463463374607431768211456 + wv (h % p2 (64 - n) * p2 n + l / p2 (64 - n)) (l % p2 (64 - n) * p2 n) := by
          unfold wv
          generalize h / p2 (64 - n) = A at *
          generalize h % p2 (64 - n) = B at *
          generalize l / p2 (64 - n) = C at *
          generalize l % p2 (64 - n) = D at *
          generalize p2 n = P at *
          generalize p2 (64 - n) = Q at *
          subst eh el
          have : (340282366920938463463374607431768211456 : Int) = P * Q * (P * Q) := by rw [hPQ]; decide
          rw [this, ← hPQ]
          grind
        rw [e]
        have hr := wv_range (h := h % p2 (64 - n) * p2 n + l / p2 (64 - n)) (l := l % p2 (64 - n) * p2 n) ⟨by omega, by omega⟩ ⟨by omega, by omega⟩
        omega

theorem cut_div {v P : Int} (hP : 0 < P) : v / P * P = v - v % P := by have := Int.mul_ediv_add_emod v P; rw [Int.mul_comm] at this; omega
/-- Times 2^n, less than 2^128. -/
theorem wide_Left_small {h l n : Int} (hh : U h) (hl : U l) (hn : n ≤ 4611686018427387904) (hs : wv h l * p2 n < 340282366920938463463374607431768211456) : ∃ h' l', wide_Wide_Left.f h l n = some (h', l') ∧ U h' ∧ U l' ∧ wv h' l' = wv h l * p2 n := by
  obtain ⟨h', l', e, u1, u2, ev⟩ := wide_Left_eq hh hl hn
  refine ⟨h', l', e, u1, u2, ?_⟩
  rw [ev, Int.emod_eq_of_lt (Int.mul_nonneg (wv_range hh hl).1 (Int.le_of_lt (p2_pos n))) hs]

theorem right_tail {h l n oh ol : Int} (hh : U h) (hl : U l) (ho : U oh) (ho' : U ol) (h1 : ¬ n ≤ 0) (hn : n ≤ 4611686018427387904) (ev : wv oh ol = wv h l / p2 n) :
    Ev (fun k => wide_Wide_Right.j0 k n h l oh ol) (oh, ol, decide (wv h l % p2 n ≠ 0)) := by
  have hv := wv_range hh hl
  have hP := p2_pos n
  have hr0 := Int.emod_nonneg (wv h l) (Int.ne_of_gt hP)
  have hc := cut_div (v := wv h l) hP
  have hle : wv oh ol * p2 n < 340282366920938463463374607431768211456 := by rw [ev, hc]; omega
  obtain ⟨h', l', e, u1, u2, ev2⟩ := wide_Left_small ho ho' hn hle
  refine Ev.succ ?_
  simp only [wide_Wide_Right.j0]
  refine Ev.call e ?_
  dsimp only
  rw [ev, hc] at ev2
  by_cases hz : wv h l % p2 n = 0
  · have ee := wv_inj u1 u2 hh hl (by rw [ev2, hz]; omega)
    obtain ⟨rfl, rfl⟩ := ee
    refine Ev.neg (by simp) ?_
    rw [show decide (wv h' l' % p2 n ≠ 0) = false from by simp [hz]]
    by_cases h2 : n ≥ 128
    · refine Ev.pos h2 (Ev.call (wide_Zero_eq hh hl) ?_)
      have : wv h' l' = 0 := by
        have := Int.emod_eq_of_lt hv.1 (show wv h' l' < p2 n from by have := p2_le h2; rw [p2_128] at this; omega)
        omega
      rw [decide_eq_true this]
      exact Ev.now _
    · exact Ev.neg h2 (Ev.now _)
  · refine Ev.pos ?_ ?_
    · by_cases hc1 : h' = h
      · by_cases hc2 : l' = l
        · subst hc1 hc2; omega
        · simp [hc2]
      · simp [hc1]
    · rw [show decide (wv h l % p2 n ≠ 0) = true from by simp [hz]]
      exact Ev.now _
theorem wide_Right_ev {h l n : Int} (hh : U h) (hl : U l) (hn : n ≤ 4611686018427387904) : ∃ h' l', Ev (fun k => wide_Wide_Right.f k h l n) (h', l', decide (wv h l % p2 n ≠ 0)) ∧ U h' ∧ U l' ∧ wv h' l' = wv h l / p2 n := by
  have hv := wv_range hh hl
  unfold wide_Wide_Right.f
  by_cases h1 : n ≤ 0
  · rw [p2_neg h1]
    refine ⟨h, l, ?_, hh, hl, by omega⟩
    rw [show decide (wv h l % 1 ≠ 0) = false from by simp]
    exact Ev.pos h1 (Ev.now _)
  · by_cases h2 : n ≥ 128
    · have e0 : wv 0 0 = wv h l / p2 n := by
        have : wv h l < p2 n := by have := p2_le h2; rw [p2_128] at this; omega
        rw [Int.ediv_eq_zero_of_lt hv.1 this]; rfl
      have u0 : U 0 := ⟨by decide, by decide⟩
      exact ⟨0, 0, Ev.neg h1 (Ev.pos h2 (right_tail hh hl u0 u0 h1 hn e0)), u0, u0, e0⟩
    · by_cases h3 : n ≥ 64
      · have u0 : U 0 := ⟨by decide, by decide⟩
        have hP := p2_pos (n - 64)
        have hh' := hh
        obtain ⟨x0, x1⟩ := hh
        have u1 : U (h / p2 (n - 64)) := ⟨Int.ediv_nonneg x0 (Int.le_of_lt hP), by have := Int.ediv_le_self (p2 (n - 64)) x0; omega⟩
        have e0 : wv 0 (h / p2 (n - 64)) = wv h l / p2 n := by
          have e : p2 n = 18446744073709551616 * p2 (n - 64) := by rw [← p2_64, ← p2_add (by omega) (by omega)]; congr 1; omega
          have e3 : wv h l / 18446744073709551616 = h := by obtain ⟨y0, y1⟩ := hl; unfold wv; omega
          rw [e, ← Int.ediv_ediv_of_nonneg (by decide), e3]
          unfold wv; omega
        refine ⟨0, h / p2 (n - 64), Ev.neg h1 (Ev.neg h2 (Ev.pos h3 ?_)), u0, u1, e0⟩
        rw [w64 (by omega) (by omega), shr_u64 (by omega) (by omega)]
        exact Ev.pos (by omega) (right_tail hh' hl u0 u1 h1 hn e0)
      · have hP := p2_pos n
        have hQ := p2_pos (64 - n)
        have hQP : p2 (64 - n) * p2 n = 18446744073709551616 := by rw [← p2_64, ← p2_add (by omega) (by omega)]; congr 1; omega
        obtain ⟨c0, c1, d0, d1, el⟩ := part_lt hl hQ hP hQP
        obtain ⟨a0, a1, b0, b1, eh⟩ := part_lt hh hQ hP hQP
        obtain ⟨mh, mh0, mh1⟩ := mul_mod_cut hh hQ hP hQP
        have hP1 : 1 ≤ p2 n := hP
        have hQ1 : p2 (64 - n) ≤ 18446744073709551616 := by rw [← p2_64]; exact p2_le (by omega)
        have u1 : U (h / p2 n) := ⟨a0, by omega⟩
        have u2 : U (h % p2 n * p2 (64 - n) + l / p2 n) := ⟨by omega, by omega⟩
        have e0 : wv (h / p2 n) (h % p2 n * p2 (64 - n) + l / p2 n) = wv h l / p2 n := by
          have e1 : wv h l = wv (h / p2 n) (h % p2 n * p2 (64 - n) + l / p2 n) * p2 n + l % p2 n := by
            unfold wv
            generalize h / p2 n = A at *
            generalize h % p2 n = B at *
            generalize l / p2 n = C at *
            generalize l % p2 n = D at *
            generalize p2 n = P at *
            generalize p2 (64 - n) = Q at *
            subst eh el
            rw [← hQP]
            grind
          rw [e1, Int.add_comm _ (l % p2 n), Int.add_mul_ediv_right _ _ (Int.ne_of_gt hP), Int.ediv_eq_zero_of_lt d0 d1, Int.zero_add]
        refine ⟨_, _, Ev.neg h1 (Ev.neg h2 (Ev.neg h3 (Ev.pos (by omega) ?_))), u1, u2, e0⟩
        rw [w64 (by omega) (by omega), shr_u64 (by omega) (by omega), shl_u64 (by omega) (by omega), shr_u64 (by omega) (by omega), mh]
        have hmod : h % p2 n * p2 (64 - n) % 2 ^ (64 - n).toNat = 0 := by
          show h % p2 n * p2 (64 - n) % p2 (64 - n) = 0
          exact Int.mul_emod_left _ _
        rw [u64_or (64 - n).toNat mh0 hmod (by omega) c0 c1 (by omega)]
        exact Ev.pos (by omega) (right_tail hh hl u1 u2 h1 hn e0)

theorem wide_Add_eq {h l h' l' : Int} (hh : U h) (hl : U l) (hh' : U h') (hl' : U l') : ∃ a b, wide_Wide_Add.f h l h' l' = some (a, b, decide (340282366920938463463374607431768211456 ≤ wv h l + wv h' l')) ∧ U a ∧ U b ∧ wv a b = (wv h l + wv h' l') % 340282366920938463463374607431768211456 := by
  obtain ⟨x0, x1⟩ := hh; obtain ⟨x2, x3⟩ := hl; obtain ⟨x4, x5⟩ := hh'; obtain ⟨x6, x7⟩ := hl'
  unfold wide_Wide_Add.f bits_Add64.f
  rw [if_pos x2, if_pos x6, if_pos (by decide), if_pos (by decide)]
  simp only [Option.bind_some]
  rw [if_pos x0, if_pos x4, if_pos (by omega), if_pos (by omega)]
  simp only [Option.bind_some]
  refine ⟨_, _, congrArg some (Prod.ext rfl (Prod.ext rfl ?_)), ⟨by omega, by omega⟩, ⟨by omega, by omega⟩, ?_⟩
  · rw [Bool.eq_iff_iff]
    unfold wv
    simp
    omega
  · unfold wv
    omega

/-- How many bits a whole number has. -/
def blen (x : Int) : Int := if x ≤ 0 then 0 else (Nat.log2 x.toNat : Int) + 1
theorem blen_pos {x : Int} (h : 0 < x) : 1 ≤ blen x ∧ p2 (blen x - 1) ≤ x ∧ x < p2 (blen x) := by
  unfold blen p2
  rw [if_neg (by omega)]
  obtain ⟨n, rfl⟩ := Int.eq_ofNat_of_zero_le (Int.le_of_lt h)
  have hn : n ≠ 0 := by omega
  have h1 := Nat.log2_self_le hn
  have h2 := Nat.lt_log2_self (n := n)
  simp only [Int.toNat_natCast]
  refine ⟨by omega, ?_, ?_⟩
  · rw [show ((n.log2 : Int) + 1 - 1).toNat = n.log2 from by omega]; exact_mod_cast h1
  · rw [show ((n.log2 : Int) + 1).toNat = n.log2 + 1 from by omega]; exact_mod_cast h2
theorem blen_nonneg (x : Int) : 0 ≤ blen x := by unfold blen; split <;> omega
theorem blen_unique {x L : Int} (hL : 1 ≤ L) (h1 : p2 (L - 1) ≤ x) (h2 : x < p2 L) : blen x = L := by
  have hx : 0 < x := by have := p2_pos (L - 1); omega
  obtain ⟨b0, b1, b2⟩ := blen_pos hx
  have h3 : ¬ blen x < L := fun hc => by have := p2_le (show blen x ≤ L - 1 from by omega); omega
  have h4 : ¬ L < blen x := fun hc => by have := p2_le (show L ≤ blen x - 1 from by omega); omega
  omega
theorem blen_shift {x s : Int} (hs : 0 ≤ s) (hx : p2 s ≤ x) : blen x = s + blen (x / p2 s) := by
  have hP := p2_pos s
  have hq : 0 < x / p2 s := by have := Int.le_ediv_of_mul_le hP (show 1 * p2 s ≤ x from by omega); omega
  obtain ⟨b0, b1, b2⟩ := blen_pos hq
  have e := Int.mul_ediv_add_emod x (p2 s)
  have r0 := Int.emod_nonneg x (Int.ne_of_gt hP)
  have r1 := Int.emod_lt_of_pos x hP
  refine blen_unique (by omega) ?_ ?_
  · have : p2 (s + blen (x / p2 s) - 1) = p2 s * p2 (blen (x / p2 s) - 1) := by rw [← p2_add hs (by omega)]; congr 1; omega
    rw [this]
    have := Int.mul_le_mul_of_nonneg_left b1 (Int.le_of_lt hP)
    omega
  · rw [p2_add hs (by omega)]
    have : p2 s * (x / p2 s + 1) ≤ p2 s * p2 (blen (x / p2 s)) := Int.mul_le_mul_of_nonneg_left b2 (Int.le_of_lt hP)
    have e2 : p2 s * (x / p2 s + 1) = p2 s * (x / p2 s) + p2 s := by grind
    omega
theorem blen_le {x L : Int} (hL : 0 ≤ L) (h : x < p2 L) : blen x ≤ L := by
  by_cases hx : 0 < x
  · obtain ⟨b0, b1, b2⟩ := blen_pos hx
    exact Int.not_lt.mp (fun hc => by have := p2_le (show L ≤ blen x - 1 from by omega); omega)
  · unfold blen; rw [if_pos (by omega)]; exact hL
theorem blen_tab : ∀ i : Fin 256, bt (⟨#[0, 1, 2, 2, 3, 3, 3, 3, 4, 4, 4, 4, 4, 4, 4, 4, 5, 5, 5, 5, 5, 5, 5, 5, 5, 5, 5, 5, 5, 5, 5, 5, 6, 6, 6, 6, 6, 6, 6, 6, 6, 6, 6, 6, 6, 6, 6, 6, 6, 6, 6, 6, 6, 6, 6, 6, 6, 6, 6, 6, 6, 6, 6, 6, 7, 7, 7, 7, 7, 7, 7, 7, 7, 7, 7, 7, 7, 7, 7, 7, 7, 7, 7, 7, 7, 7, 7, 7, 7, 7, 7, 7, 7, 7, 7, 7, 7, 7, 7, 7, 7, 7, 7, 7, 7, 7, 7, 7, 7, 7, 7, 7, 7, 7, 7, 7, 7, 7, 7, 7, 7, 7, 7, 7, 7, 7, 7, 7, 8, 8, 8, 8, 8, 8, 8, 8, 8, 8, 8, 8, 8, 8, 8, 8, 8, 8, 8, 8, 8, 8, 8, 8, 8, 8, 8, 8, 8, 8, 8, 8, 8, 8, 8, 8, 8, 8, 8, 8, 8, 8, 8, 8, 8, 8, 8, 8, 8, 8, 8, 8, 8, 8, 8, 8, 8, 8, 8, 8, 8, 8, 8, 8, 8, 8, 8, 8, 8, 8, 8, 8, 8, 8, 8, 8, 8, 8, 8, 8, 8, 8, 8, 8, 8, 8, 8, 8, 8, 8, 8, 8, 8, 8, 8, 8, 8, 8, 8, 8, 8, 8, 8, 8, 8, 8, 8, 8, 8, 8, 8, 8, 8, 8, 8, 8, 8, 8, 8, 8, 8, 8, 8, 8, 8, 8, 8, 8]⟩ : ByteArray) (i.val : Int) = blen (i.val : Int) := by decide +kernel
theorem blen_tab_eq {i : Int} (h0 : 0 ≤ i) (h1 : i < 256) : bt (⟨#[0, 1, 2, 2, 3, 3, 3, 3, 4, 4, 4, 4, 4, 4, 4, 4, 5, 5, 5, 5, 5, 5, 5, 5, 5, 5, 5, 5, 5, 5, 5, 5, 6, 6, 6, 6, 6, 6, 6, 6, 6, 6, 6, 6, 6, 6, 6, 6, 6, 6, 6, 6, 6, 6, 6, 6, 6, 6, 6, 6, 6, 6, 6, 6, 7, 7, 7, 7, 7, 7, 7, 7, 7, 7, 7, 7, 7, 7, 7, 7, 7, 7, 7, 7, 7, 7, 7, 7, 7, 7, 7, 7, 7, 7, 7, 7, 7, 7, 7, 7, 7, 7, 7, 7, 7, 7, 7, 7, 7, 7, 7, 7, 7, 7, 7, 7, 7, 7, 7, 7, 7, 7, 7, 7, 7, 7, 7, 7, 8, 8, 8, 8, 8, 8, 8, 8, 8, 8, 8, 8, 8, 8, 8, 8, 8, 8, 8, 8, 8, 8, 8, 8, 8, 8, 8, 8, 8, 8, 8, 8, 8, 8, 8, 8, 8, 8, 8, 8, 8, 8, 8, 8, 8, 8, 8, 8, 8, 8, 8, 8, 8, 8, 8, 8, 8, 8, 8, 8, 8, 8, 8, 8, 8, 8, 8, 8, 8, 8, 8, 8, 8, 8, 8, 8, 8, 8, 8, 8, 8, 8, 8, 8, 8, 8, 8, 8, 8, 8, 8, 8, 8, 8, 8, 8, 8, 8, 8, 8, 8, 8, 8, 8, 8, 8, 8, 8, 8, 8, 8, 8, 8, 8, 8, 8, 8, 8, 8, 8, 8, 8, 8, 8, 8, 8, 8, 8]⟩ : ByteArray) i = blen i := by
  obtain ⟨n, rfl⟩ := Int.eq_ofNat_of_zero_le h0
  exact blen_tab ⟨n, by omega⟩
set_option maxRecDepth 100000 in
theorem bits_Len64_j0 {x s : Int} (h0 : 0 ≤ x) (h1 : x < 4294967296) (hs : 0 ≤ s) (hs' : s ≤ 64) : Ev (fun k => bits_Len64.j0 k x s) (s + blen x) := by
  refine Ev.succ ?_
  simp only [bits_Len64.j0]
  have q16 : p2 16 = 65536 := by decide
  have q8 : p2 8 = 256 := by decide
  by_cases c1 : x ≥ 65536
  · refine Ev.pos c1 ?_
    have e1 : blen x = 16 + blen (x / 65536) := by rw [← q16]; exact blen_shift (by decide) (by rw [q16]; exact c1)
    by_cases c2 : x / 65536 ≥ 256
    · refine Ev.pos c2 (Ev.pos (by omega) (Ev.pos (by omega) ?_))
      have e2 : blen (x / 65536) = 8 + blen (x / 65536 / 256) := by rw [← q8]; exact blen_shift (by decide) (by rw [q8]; exact c2)
      rw [blen_tab_eq (by omega) (by omega), show x / 65536 / 256 % 256 = x / 65536 / 256 from by omega]
      have b1 := blen_nonneg (x / 65536 / 256)
      have b2 : blen (x / 65536 / 256) ≤ 8 := blen_le (by decide) (by rw [q8]; omega)
      rw [w64 (x := blen _) (by omega) (by omega), w64 (x := s + 16) (by omega) (by omega), w64 (x := s + 16 + 8) (by omega) (by omega), w64 (by omega) (by omega), e1, e2]
      rw [show s + 16 + 8 + blen (x / 65536 / 256) = s + (16 + (8 + blen (x / 65536 / 256))) from by omega]
      exact Ev.now _
    · refine Ev.neg c2 (Ev.pos (by omega) (Ev.pos (by omega) ?_))
      rw [blen_tab_eq (by omega) (by omega), show x / 65536 % 256 = x / 65536 from by omega]
      have b1 := blen_nonneg (x / 65536)
      have b2 : blen (x / 65536) ≤ 8 := blen_le (by decide) (by rw [q8]; omega)
      rw [w64 (x := blen _) (by omega) (by omega), w64 (x := s + 16) (by omega) (by omega), w64 (by omega) (by omega), e1]
      rw [show s + 16 + blen (x / 65536) = s + (16 + blen (x / 65536)) from by omega]
      exact Ev.now _
  · refine Ev.neg c1 ?_
    by_cases c2 : x ≥ 256
    · refine Ev.pos c2 (Ev.pos (by omega) (Ev.pos (by omega) ?_))
      have e2 : blen x = 8 + blen (x / 256) := by rw [← q8]; exact blen_shift (by decide) (by rw [q8]; exact c2)
      rw [blen_tab_eq (by omega) (by omega), show x / 256 % 256 = x / 256 from by omega]
      have b1 := blen_nonneg (x / 256)
      have b2 : blen (x / 256) ≤ 8 := blen_le (by decide) (by rw [q8]; omega)
      rw [w64 (x := blen _) (by omega) (by omega), w64 (x := s + 8) (by omega) (by omega), w64 (by omega) (by omega), e2]
      rw [show s + 8 + blen (x / 256) = s + (8 + blen (x / 256)) from by omega]
      exact Ev.now _
    · refine Ev.neg c2 (Ev.pos (by omega) (Ev.pos (by omega) ?_))
      rw [blen_tab_eq (by omega) (by omega), show x % 256 = x from by omega]
      have b1 := blen_nonneg x
      have b2 : blen x ≤ 8 := blen_le (by decide) (by rw [q8]; omega)
      rw [w64 (x := blen _) (by omega) (by omega), w64 (by omega) (by omega)]
      exact Ev.now _
theorem bits_Len64_ev {x : Int} (h : U x) : Ev (fun k => bits_Len64.f k x) (blen x) := by
  obtain ⟨h0, h1⟩ := h
  unfold bits_Len64.f
  have q32 : p2 32 = 4294967296 := by decide
  by_cases c1 : x ≥ 4294967296
  · have e1 : blen x = 32 + blen (x / 4294967296) := by rw [← q32]; exact blen_shift (by decide) (by rw [q32]; exact c1)
    rw [e1]
    exact Ev.pos c1 (bits_Len64_j0 (by omega) (by omega) (by decide) (by decide))
  · have := bits_Len64_j0 (x := x) (s := 0) h0 (by omega) (by decide) (by decide)
    rw [Int.zero_add] at this
    exact Ev.neg c1 this
theorem wide_Len_ev {h l : Int} (hh : U h) (hl : U l) : Ev (fun k => wide_Wide_Len.f k h l) (blen (wv h l)) := by
  unfold wide_Wide_Len.f
  have hx := hh
  obtain ⟨x0, x1⟩ := hh
  have hy := hl
  obtain ⟨y0, y1⟩ := hl
  by_cases c : h = 0
  · subst c
    rw [show wv 0 l = l from by unfold wv; omega]
    exact Ev.pos rfl (Ev.bind (bits_Len64_ev hy) (Ev.now _))
  · refine Ev.neg c (Ev.bind (bits_Len64_ev hx) ?_)
    have e1 : blen (wv h l) = 64 + blen (wv h l / 18446744073709551616) := by
      rw [← p2_64]; exact blen_shift (by decide) (by rw [p2_64]; unfold wv; omega)
    have e2 : wv h l / 18446744073709551616 = h := by unfold wv; omega
    have b1 := blen_nonneg h
    have b2 : blen h ≤ 64 := blen_le (by decide) (by rw [p2_64]; omega)
    rw [e1, e2, w64 (by omega) (by omega)]
    exact Ev.now _
theorem blen_wv_le {h l : Int} (hh : U h) (hl : U l) : blen (wv h l) ≤ 128 := blen_le (by decide) (by rw [p2_128]; exact (wv_range hh hl).2)
theorem blen_mono {x y : Int} (h : x ≤ y) : blen x ≤ blen y := by
  by_cases hy : 0 < y
  · exact blen_le (blen_nonneg y) (by have := (blen_pos hy).2.2; omega)
  · unfold blen; rw [if_pos (by omega), if_pos (by omega)]; exact Int.le_refl _

theorem u8_or_1 : bits .or .u8 0 1 = 1 := by decide
theorem u8_or_2 : bits .or .u8 1 2 = 3 := by decide
/-- The flags' first half. -/
def fl (lost tiny : Bool) : Int := if lost then (if tiny then 3 else 1) else 0

theorem round_j6 (neg tiny lost : Bool) {q n : Int} (hq : -1074 ≤ q) (hq' : q ≤ 1000000) (hn : 0 ≤ n) (h1 : n < 9007199254740992) (h2 : q = -1074 ∨ 4503599627370496 ≤ n)
    (ht : tiny = true → enc q n < INF) :
    Ev (fun k => round_Round.j6 k neg q n (fl lost tiny)) (signed neg (if enc q n < INF then enc q n else INF), if enc q n < INF then fl lost tiny else 5) := by
  refine Ev.succ ?_
  simp only [round_Round.j6]
  have hU : U n := ⟨hn, by omega⟩
  have U0 : U 0 := ⟨by decide, by decide⟩
  by_cases ha : n < 4503599627370496
  · obtain rfl : q = -1074 := by omega
    have e : enc (-1074) n = n := by unfold enc; omega
    have hI : n < INF := by unfold INF; omega
    rw [e]
    simp only [if_pos hI]
    refine Ev.pos ha (Ev.call (word_Make_eq neg (by decide) (by decide) hU) ?_)
    rw [show (0 : Int) * 4503599627370496 + n % 4503599627370496 = n from by omega]
    exact Ev.now _
  · refine Ev.neg ha ?_
    rw [w64 (x := q + 1075) (by omega) (by omega)]
    by_cases hb : q + 1075 ≥ 2047
    · have e : ¬ enc q n < INF := by unfold enc INF; omega
      simp only [if_neg e]
      refine Ev.pos hb (Ev.call (word_Make_eq neg (by decide) (by decide) U0) ?_)
      have ht' : tiny = false := by
        cases tiny
        · rfl
        · exact absurd (ht rfl) e
      subst ht'
      have e2 : bits .or .u8 (bits .or .u8 (fl lost false) 4) 1 = 5 := by cases lost <;> decide
      rw [e2, show (2047 : Int) * 4503599627370496 + 0 % 4503599627370496 = INF from by decide]
      exact Ev.now _
    · have e : enc q n < INF := by unfold enc INF; omega
      simp only [if_pos e]
      refine Ev.neg hb (Ev.call (word_Make_eq neg (by omega) (by omega) hU) ?_)
      rw [show (q + 1075) * 4503599627370496 + n % 4503599627370496 = enc q n from by unfold enc; omega]
      exact Ev.now _

theorem round_j4 (neg tiny lost : Bool) {E d q n hi : Int} (hE : -1000000 ≤ E) (hE' : E ≤ 1000000) (hd : -1000000 ≤ d) (hd' : d ≤ 1000000) (hqe : E + d = q) (hq : -1074 ≤ q) (hq' : q ≤ 200000) (hn : 0 ≤ n) (h1 : n ≤ 9007199254740992) (h2 : q = -1074 ∨ 4503599627370496 ≤ n)
    (ht : tiny = true → enc q n < INF) :
    Ev (fun k => round_Round.j4 k neg E d tiny lost hi n) (signed neg (if enc q n < INF then enc q n else INF), if enc q n < INF then fl lost tiny else 5) := by
  have j5 : ∀ q' n', -1074 ≤ q' → q' ≤ 1000000 → 0 ≤ n' → n' < 9007199254740992 → (q' = -1074 ∨ 4503599627370496 ≤ n') → enc q' n' = enc q n →
      Ev (fun k => round_Round.j5 k neg q' tiny lost n') (signed neg (if enc q n < INF then enc q n else INF), if enc q n < INF then fl lost tiny else 5) := by
    intro q' n' a b c d' e f
    refine Ev.succ ?_
    simp only [round_Round.j5]
    have h6 := round_j6 neg tiny lost a b c d' e (by rw [f]; exact ht)
    rw [f] at h6
    cases lost
    · refine Ev.neg (by decide) ?_
      exact h6
    · refine Ev.pos rfl ?_
      cases tiny
      · refine Ev.neg (by decide) ?_
        rw [u8_or_1]; exact h6
      · refine Ev.pos rfl ?_
        rw [u8_or_1, u8_or_2]; exact h6
  refine Ev.succ ?_
  simp only [round_Round.j4]
  rw [w64 (x := E + d) (by omega) (by omega), hqe]
  by_cases ha : n = 9007199254740992
  · subst ha
    refine Ev.pos rfl ?_
    rw [w64 (x := q + 1) (by omega) (by omega)]
    exact j5 (q + 1) _ (by omega) (by omega) (by decide) (by decide) (.inr (by decide)) (by unfold enc; omega)
  · exact Ev.neg ha (j5 q n hq (by omega) hn (by omega) h2 rfl)

/-- One half of the last place, and what lies beneath. -/
theorem half_rest {W d : Int} (hW : 0 ≤ W) (hd : 0 < d) : (W / p2 (d - 1)) % 2 = (if p2 d ≤ 2 * (W % p2 d) then 1 else 0) ∧ W % p2 (d - 1) = (if p2 d ≤ 2 * (W % p2 d) then W % p2 d - p2 (d - 1) else W % p2 d) := by
  have hP := p2_pos (d - 1)
  have e : p2 d = 2 * p2 (d - 1) := by rw [← p2_succ (by omega)]; congr 1; omega
  have m1 := Int.mul_ediv_add_emod W (p2 (d - 1))
  have r0 := Int.emod_nonneg W (Int.ne_of_gt hP)
  have r1 := Int.emod_lt_of_pos W hP
  have hD := p2_pos d
  have m2 := Int.mul_ediv_add_emod W (p2 d)
  have s0 := Int.emod_nonneg W (Int.ne_of_gt hD)
  have s1 := Int.emod_lt_of_pos W hD
  have key : W % p2 d = (W / p2 (d - 1) % 2) * p2 (d - 1) + W % p2 (d - 1) := by
    have h2 : W / p2 (d - 1) = 2 * (W / p2 (d - 1) / 2) + W / p2 (d - 1) % 2 := by omega
    have h3 : W = (W / p2 (d - 1) % 2 * p2 (d - 1) + W % p2 (d - 1)) + p2 d * (W / p2 (d - 1) / 2) := by
      rw [e]
      generalize W / p2 (d - 1) / 2 = X at *
      generalize W / p2 (d - 1) % 2 = Y at *
      rw [h2] at m1
      grind
    have hb : 0 ≤ W / p2 (d - 1) % 2 ∧ W / p2 (d - 1) % 2 ≤ 1 := by omega
    have hb2 : W / p2 (d - 1) % 2 * p2 (d - 1) ≤ 1 * p2 (d - 1) := Int.mul_le_mul_of_nonneg_right hb.2 (Int.le_of_lt hP)
    have hb3 : 0 ≤ W / p2 (d - 1) % 2 * p2 (d - 1) := Int.mul_nonneg hb.1 (Int.le_of_lt hP)
    have := Int.add_mul_emod_self_left (W / p2 (d - 1) % 2 * p2 (d - 1) + W % p2 (d - 1)) (p2 d) (W / p2 (d - 1) / 2)
    rw [← h3] at this
    rw [this]
    exact Int.emod_eq_of_lt (by omega) (by omega)
  rcases (show W / p2 (d - 1) % 2 = 0 ∨ W / p2 (d - 1) % 2 = 1 from by omega) with hb | hb
  · rw [hb] at key
    rw [hb, if_neg (by omega), if_neg (by omega)]
    omega
  · rw [hb] at key
    rw [hb, if_pos (by omega), if_pos (by omega)]
    omega

theorem round_split_ev {h l d : Int} (hh : U h) (hl : U l) (hW : 0 < wv h l) (hd : 0 < d) (hd' : d ≤ 1000000) :
    Ev (fun k => round_split.f k h l d (decide (wv h l % p2 d ≠ 0))) (decide (p2 d ≤ 2 * (wv h l % p2 d)), if p2 d ≤ 2 * (wv h l % p2 d) then decide (wv h l % p2 d ≠ p2 (d - 1)) else decide (wv h l % p2 d ≠ 0)) := by
  have hv := wv_range hh hl
  unfold round_split.f
  by_cases h1 : d > 128
  · have hm : wv h l % p2 d = wv h l := Int.emod_eq_of_lt hv.1 (by have := p2_le (show 128 ≤ d from by omega); rw [p2_128] at this; omega)
    have hbig : ¬ p2 d ≤ 2 * (wv h l % p2 d) := by
      rw [hm]
      have := p2_le (show 129 ≤ d from by omega)
      have e : p2 129 = 680564733841876926926749214863536422912 := by decide
      rw [e] at this
      omega
    rw [if_neg hbig, decide_eq_false hbig]
    exact Ev.pos h1 (Ev.now _)
  · refine Ev.neg h1 ?_
    obtain ⟨a, b, ev, u1, u2, e⟩ := wide_Right_ev (n := d - 1) hh hl (by omega)
    rw [w64 (x := d - 1) (by omega) (by omega)]
    refine Ev.bind ev ?_
    dsimp only
    obtain ⟨k1, k2⟩ := half_rest hv.1 hd
    rw [u64_and1 u2.1 u2.2]
    have e1 : b % 2 = wv h l / p2 (d - 1) % 2 := by rw [← e]; unfold wv; omega
    rw [e1, k1, k2]
    have hP := p2_pos (d - 1)
    by_cases hc : p2 d ≤ 2 * (wv h l % p2 d)
    · simp only [if_pos hc, decide_eq_true hc]
      have e2 : decide (wv h l % p2 d - p2 (d - 1) ≠ 0) = decide (wv h l % p2 d ≠ p2 (d - 1)) := by
        apply decide_eq_decide.mpr
        constructor <;> intro h <;> omega
      rw [e2]
      exact Ev.now _
    · simp only [if_neg hc, decide_eq_false hc]
      exact Ev.now _

/-- What is rounded, and how. -/
def rup (W d : Int) (more : Bool) : Int := if p2 d ≤ 2 * (W % p2 d) ∧ (W % p2 d ≠ p2 (d - 1) ∨ more = true ∨ W / p2 d % 2 = 1) then W / p2 d + 1 else W / p2 d

theorem rup_rnd {W E d : Int} {more : Bool} {x : Rat} (hW : 0 < W) (hd : 0 < d) (hq : -1074 ≤ E + d) (hL : blen W - 53 ≤ d) (hq2 : E + d = -1074 ∨ d = blen W - 53)
    (hx0 : more = false → x = (W : Rat) * pw E) (hx1 : more = true → (W : Rat) * pw E < x ∧ x < (W + 1 : Int) * pw E) :
    Rnd x (E + d) (rup W d more) ∧ (x = (rup W d more : Rat) * pw (E + d) ↔ (W % p2 d = 0 ∧ more = false)) := by
  have hD := p2_pos d
  have hP := p2_pos (d - 1)
  have e : p2 d = 2 * p2 (d - 1) := by rw [← p2_succ (by omega)]; congr 1; omega
  have hu := pw_pos E
  have hqD : pw (E + d) = (p2 d : Rat) * pw E := by rw [pw_add, pw_p2 (a := d) (by omega), Rat.mul_comm]
  have m2 := Int.mul_ediv_add_emod W (p2 d)
  have s0 := Int.emod_nonneg W (Int.ne_of_gt hD)
  have s1 := Int.emod_lt_of_pos W hD
  obtain ⟨bl1, bl2, bl3⟩ := blen_pos hW
  have hxlo : (W : Rat) * pw E ≤ x := by
    cases more
    · rw [hx0 rfl]; exact Rat.le_refl
    · exact Rat.le_of_lt (hx1 rfl).1
  have hxhi : x < (W + 1 : Int) * pw E := by
    cases more
    · rw [hx0 rfl]; exact mul_pw_lt.mpr (by omega)
    · exact (hx1 rfl).2
  have hpos : 0 < x := by
    have : (0 : Int) * pw E < (W : Rat) * pw E := mul_pw_lt.mpr hW
    grind
  -- a whole number times pw q, as one times pw E
  have hn : ∀ n : Int, (n : Rat) * pw (E + d) = (n * p2 d : Int) * pw E := by
    intro n; rw [hqD]; push_cast; grind
  have hlo : E + d = -1074 ∨ (4503599627370496 : Int) * pw (E + d) ≤ x := by
    rcases hq2 with h | h
    · exact .inl h
    · refine .inr (Rat.le_trans ?_ hxlo)
      rw [hn]
      apply mul_pw_le.mpr
      have e52 : (4503599627370496 : Int) = p2 52 := by decide
      rw [e52, ← p2_add (by decide) (by omega), show 52 + d = blen W - 1 from by omega]
      exact bl2
  have hhi : x < (9007199254740992 : Int) * pw (E + d) := by
    refine Std.lt_of_lt_of_le hxhi ?_
    rw [hn]
    apply mul_pw_le.mpr
    have e53 : (9007199254740992 : Int) = p2 53 := by decide
    rw [e53, ← p2_add (by decide) (by omega)]
    have := p2_le (show blen W ≤ 53 + d from by omega)
    omega
  generalize hA : W / p2 d = A at *
  generalize hR : W % p2 d = R at *
  have two : ∀ {y z : Int}, y ≤ z → ((y : Int) : Rat) * pw E ≤ z * pw E := fun h => mul_pw_le.mpr h
  have x2 : (2 * W : Int) * pw E ≤ 2 * x := by push_cast; grind
  have x2' : 2 * x < (2 * W + 2 : Int) * pw E := by push_cast at hxhi ⊢; grind
  have ex0 : more = false → 2 * x = (2 * W : Int) * pw E := fun h => by rw [hx0 h]; push_cast; grind
  have ex1 : more = true → (2 * W : Int) * pw E < 2 * x := fun h => by have := (hx1 h).1; push_cast; grind
  by_cases hup : p2 d ≤ 2 * R ∧ (R ≠ p2 (d - 1) ∨ more = true ∨ A % 2 = 1)
  · have er : rup W d more = A + 1 := by unfold rup; rw [hA, hR, if_pos hup]
    rw [er]
    obtain ⟨u1, u2⟩ := hup
    have lt1 : 2 * x < (2 * (A + 1) + 1 : Int) * pw (E + d) := by
      rw [hn]
      refine Std.lt_of_lt_of_le x2' (two ?_)
      have : (2 * (A + 1) + 1) * p2 d = 2 * (p2 d * A) + 3 * p2 d := by grind
      omega
    have ge1 : (2 * (A + 1) - 1 : Int) * pw (E + d) ≤ 2 * x := by
      rw [hn]
      refine Rat.le_trans (two ?_) x2
      have : (2 * (A + 1) - 1) * p2 d = 2 * (p2 d * A) + p2 d := by grind
      omega
    refine ⟨⟨hq, hlo, hhi, hpos, Rat.le_of_lt lt1, ge1, fun h => absurd h (by grind), fun h => ?_⟩, ?_⟩
    · -- a tie: nothing more, and A is odd
      rw [hn] at h
      have t1 : (2 * (A + 1) - 1) * p2 d = 2 * (p2 d * A) + p2 d := by grind
      rw [t1] at h
      cases hm : more
      · rw [ex0 hm] at h
        have := mul_pw_inj h
        rcases u2 with u2 | u2 | u2
        · omega
        · rw [hm] at u2; cases u2
        · omega
      · have h1 := ex1 hm
        rw [h] at h1
        have := mul_pw_lt.mp h1
        omega
    · constructor
      · intro h
        exfalso
        have h' : 2 * x = (2 * ((A + 1) * p2 d) : Int) * pw E := by rw [h, hn]; push_cast; grind
        have t1 : (A + 1) * p2 d = p2 d * A + p2 d := by grind
        rw [t1] at h'
        cases hm : more
        · rw [ex0 hm] at h'
          have := mul_pw_inj h'
          omega
        · have h1 := ex1 hm
          have h2 := x2'
          rw [h'] at h1 h2
          have := mul_pw_lt.mp h1
          have := mul_pw_lt.mp h2
          omega
      · intro ⟨h1, _⟩; omega
  · have er : rup W d more = A := by unfold rup; rw [hA, hR, if_neg hup]
    rw [er]
    have hup' : ¬ p2 d ≤ 2 * R ∨ (R = p2 (d - 1) ∧ more = false ∧ A % 2 = 0) := by
      by_cases c : p2 d ≤ 2 * R
      · refine .inr ?_
        have c2 : ¬ (R ≠ p2 (d - 1) ∨ more = true ∨ A % 2 = 1) := fun h => hup ⟨c, h⟩
        refine ⟨?_, ?_, ?_⟩
        · exact Decidable.byContradiction fun h => c2 (.inl h)
        · cases more
          · rfl
          · exact absurd (.inr (.inl rfl)) c2
        · have : ¬ A % 2 = 1 := fun h => c2 (.inr (.inr h))
          omega
      · exact .inl c
    have t1 : (2 * A + 1) * p2 d = 2 * (p2 d * A) + p2 d := by grind
    have t2 : (2 * A - 1) * p2 d = 2 * (p2 d * A) - p2 d := by grind
    have le1 : 2 * x ≤ (2 * A + 1 : Int) * pw (E + d) := by
      rw [hn, t1]
      rcases hup' with h | ⟨h, hm, h2⟩
      · exact Rat.le_trans (Rat.le_of_lt x2') (two (by omega))
      · rw [ex0 hm]; exact two (by omega)
    have ge1 : (2 * A - 1 : Int) * pw (E + d) < 2 * x := by
      rw [hn, t2]
      exact Std.lt_of_lt_of_le (mul_pw_lt.mpr (by omega)) x2
    refine ⟨⟨hq, hlo, hhi, hpos, le1, Rat.le_of_lt ge1, fun h => ?_, fun h => absurd h (by grind)⟩, ?_⟩
    · rw [hn, t1] at h
      rcases hup' with h1 | ⟨h1, hm, h2⟩
      · exfalso
        have h2 := x2'
        rw [h] at h2
        have := mul_pw_lt.mp h2
        omega
      · exact h2
    · constructor
      · intro h
        have h' : 2 * x = (2 * (A * p2 d) : Int) * pw E := by rw [h, hn]; push_cast; grind
        have t3 : A * p2 d = p2 d * A := by grind
        rw [t3] at h'
        cases hm : more
        · rw [ex0 hm] at h'
          have := mul_pw_inj h'
          exact ⟨by omega, rfl⟩
        · exfalso
          have h1 := ex1 hm
          have h2 := x2'
          rw [h'] at h1 h2
          have := mul_pw_lt.mp h1
          have := mul_pw_lt.mp h2
          omega
      · intro ⟨h1, hm⟩
        rw [hx0 hm, hn]
        congr 2
        have t3 : A * p2 d = p2 d * A := by grind
        rw [t3]
        omega

/-- Where the pattern would be infinite, the number isn't small. -/
theorem tiny_enc {x : Rat} {q n : Int} (h : Rnd x q n) (hx : x < pw (-1022)) : enc q n < INF := by
  have h1 : Rnd (vm 4503599627370496) (expo 4503599627370496) (mant 4503599627370496) := Rnd.of_vm (by decide)
  have e : vm 4503599627370496 = pw (-1022) := by
    unfold vm
    have e1 : mant 4503599627370496 = 4503599627370496 := by decide
    have e2 : expo 4503599627370496 = -1074 := by decide
    rw [e1, e2]
    have e3 : (4503599627370496 : Int) = p2 52 := by decide
    rw [e3, ← pw_p2 (by decide), ← pw_add]
    rfl
  have h2 := h.enc_mono h1 (by rw [e]; exact Rat.le_of_lt hx)
  rw [enc_mant _ (by decide)] at h2
  unfold INF
  omega

/-- ROUNDING: of w times 2^exp, or of what is a little more than that (and then w is long enough). -/
theorem round_Round_ev (neg : Bool) {h l E : Int} (hh : U h) (hl : U l) (hE : -100000 ≤ E) (hE' : E ≤ 100000) (more : Bool) {x : Rat} (hW : 0 < wv h l)
    (hx0 : more = false → x = (wv h l : Rat) * pw E) (hx1 : more = true → ((wv h l : Rat) * pw E < x ∧ x < (wv h l + 1 : Int) * pw E) ∧ 54 ≤ blen (wv h l)) :
    ∃ b f, Ev (fun k => round_Round.f k neg h l E more) (signed neg b, f) ∧ RB x b f := by
  have hv := wv_range hh hl
  obtain ⟨bl1, bl2, bl3⟩ := blen_pos hW
  have bl4 := blen_wv_le hh hl
  generalize hWW : wv h l = W at *
  have emx : mx (-100000) (mn E 100000) = E := by unfold mx mn; grind
  have hu := pw_pos E
  have hxlo : (W : Rat) * pw E ≤ x := by
    cases more
    · rw [hx0 rfl]; exact Rat.le_refl
    · exact Rat.le_of_lt (hx1 rfl).1.1
  have hxhi : x < (W + 1 : Int) * pw E := by
    cases more
    · rw [hx0 rfl]; exact mul_pw_lt.mpr (by omega)
    · exact (hx1 rfl).1.2
  have ht : decide (wrap64 (E + blen W) < -1021) = decide (x < pw (-1022)) := by
    rw [w64 (by omega) (by omega)]
    apply decide_eq_decide.mpr
    have hxl : pw (blen W - 1 + E) ≤ x := by
      refine Rat.le_trans ?_ hxlo
      rw [pw_add, pw_p2 (a := blen W - 1) (by omega)]
      exact mul_pw_le.mpr bl2
    have hxr : x < pw (blen W + E) := by
      refine Std.lt_of_lt_of_le hxhi ?_
      rw [pw_add, pw_p2 (a := blen W) (by omega)]
      exact mul_pw_le.mpr (by omega)
    constructor
    · intro h
      exact Std.lt_of_lt_of_le hxr (pw_mono (by omega))
    · intro h
      exact Decidable.byContradiction fun hc => by
        have := pw_mono (show -1022 ≤ blen W - 1 + E from by omega)
        grind
  -- from the number of bits that fall out on
  have main : ∀ d, -1074 ≤ E + d → blen W - 53 ≤ d → (E + d = -1074 ∨ d = blen W - 53) → d ≤ 200000 → -200 ≤ d →
      ∃ b f, Ev (fun k => round_Round.j0 k neg E more d (decide (x < pw (-1022))) h l) (signed neg b, f) ∧ RB x b f := by
    intro d hq hL hq2 hd1 hd2
    by_cases hd : d > 0
    · obtain ⟨hr, hex⟩ := rup_rnd hW hd hq hL hq2 hx0 (fun h => (hx1 h).1)
      refine ⟨_, _, ?_, ⟨_, _, hr, rfl, rfl⟩⟩
      obtain ⟨a, b, ev, u1, u2, ea⟩ := wide_Right_ev (n := d) hh hl (by omega)
      have hsp := round_split_ev hh hl (by rw [hWW]; exact hW) hd (by omega)
      rw [hWW] at ev hsp ea
      refine Ev.succ ?_
      simp only [round_Round.j0]
      refine Ev.pos hd (Ev.bind ev ?_)
      dsimp only
      refine Ev.bind hsp ?_
      dsimp only
      have hD := p2_pos d
      have hP := p2_pos (d - 1)
      have e : p2 d = 2 * p2 (d - 1) := by rw [← p2_succ (by omega)]; congr 1; omega
      have m2 := Int.mul_ediv_add_emod W (p2 d)
      have s0 := Int.emod_nonneg W (Int.ne_of_gt hD)
      have s1 := Int.emod_lt_of_pos W hD
      have hA0 : 0 ≤ W / p2 d := Int.ediv_nonneg (Int.le_of_lt hW) (Int.le_of_lt hD)
      have hA1 : W / p2 d < 9007199254740992 := by
        apply Int.ediv_lt_of_lt_mul hD
        have e53 : (9007199254740992 : Int) = p2 53 := by decide
        rw [e53, ← p2_add (by decide) (by omega)]
        have := p2_le (show blen W ≤ 53 + d from by omega)
        omega
      have hb : b = W / p2 d ∧ a = 0 := by unfold wv at ea; obtain ⟨x1, x2⟩ := u1; obtain ⟨x3, x4⟩ := u2; omega
      obtain ⟨rfl, rfl⟩ := hb
      have nn := hr.n_nonneg
      have nl := hr.n_le
      have ng := hr.n_ge'
      have tt : decide (x < pw (-1022)) = true → enc (E + d) (rup W d more) < INF := fun h => tiny_enc hr (of_decide_eq_true h)
      -- what is left: j2, with the answer on 'up'
      have j2 : ∀ lost : Bool, lost = decide (¬ (W % p2 d = 0 ∧ more = false)) → ∀ up : Bool, rup W d more = (if up then W / p2 d + 1 else W / p2 d) →
          Ev (fun k => round_Round.j2 k neg E d (decide (x < pw (-1022))) lost up 0 (W / p2 d)) (signed neg (if enc (E + d) (rup W d more) < INF then enc (E + d) (rup W d more) else INF),
            if enc (E + d) (rup W d more) < INF then (if x = (rup W d more : Rat) * pw (E + d) then 0 else if x < pw (-1022) then 3 else 1) else 5) := by
        intro lost hlost up hup
        have efl : fl lost (decide (x < pw (-1022))) = (if x = (rup W d more : Rat) * pw (E + d) then 0 else if x < pw (-1022) then 3 else 1) := by
          unfold fl
          by_cases c : W % p2 d = 0 ∧ more = false
          · rw [if_pos (hex.mpr c), hlost, decide_eq_false (by simpa using c)]
            rfl
          · rw [if_neg (fun h => c (hex.mp h)), hlost, decide_eq_true c]
            simp
        rw [← efl]
        refine Ev.succ ?_
        simp only [round_Round.j2]
        cases up
        · simp only [Bool.false_eq_true, if_false] at hup
          refine Ev.neg (by decide) ?_
          have := round_j4 neg (decide (x < pw (-1022))) lost (hi := 0) (by omega) (by omega) (by omega) (by omega) rfl hq (by omega) nn nl ng tt
          rw [hup] at this ⊢
          exact this
        · simp only [if_true] at hup
          have U0 : U 0 := ⟨by decide, by decide⟩
          have U1 : U 1 := ⟨by decide, by decide⟩
          obtain ⟨a', b', e1, v1, v2, e2⟩ := wide_Add_eq (h := 0) (l := W / p2 d) (h' := 0) (l' := 1) U0 ⟨hA0, by omega⟩ U0 U1
          refine Ev.pos rfl (Ev.call e1 ?_)
          dsimp only
          have eb : b' = W / p2 d + 1 := by unfold wv at e2; obtain ⟨x1, x2⟩ := v1; obtain ⟨x3, x4⟩ := v2; omega
          rw [eb]
          have := round_j4 neg (decide (x < pw (-1022))) lost (hi := a') (by omega) (by omega) (by omega) (by omega) rfl hq (by omega) nn nl ng tt
          rw [hup] at this ⊢
          exact this
      -- j1
      by_cases hc : p2 d ≤ 2 * (W % p2 d)
      · have hne : W % p2 d ≠ 0 := by omega
        have hl1 : true = decide (¬ (W % p2 d = 0 ∧ more = false)) := by simp [hne]
        rw [if_pos hc, decide_eq_true hc]
        refine Ev.pos rfl (Ev.succ ?_)
        simp only [round_Round.j1]
        refine Ev.pos trivial ?_
        by_cases hc2 : W % p2 d ≠ p2 (d - 1)
        · rw [decide_eq_true hc2]
          refine Ev.pos rfl (j2 true hl1 true ?_)
          unfold rup; rw [if_pos ⟨hc, .inl hc2⟩]; rfl
        · rw [decide_eq_false hc2]
          refine Ev.neg (by decide) ?_
          by_cases hm : more = true
          · refine Ev.pos hm (j2 true hl1 true ?_)
            unfold rup; rw [if_pos ⟨hc, .inr (.inl hm)⟩]; rfl
          · refine Ev.neg hm ?_
            rw [u64_and1 hA0 (by omega)]
            refine j2 true hl1 _ ?_
            unfold rup
            by_cases hodd : W / p2 d % 2 = 1
            · rw [if_pos ⟨hc, .inr (.inr hodd)⟩]; simp [hodd]
            · have hno : ¬ (p2 d ≤ 2 * (W % p2 d) ∧ (W % p2 d ≠ p2 (d - 1) ∨ more = true ∨ W / p2 d % 2 = 1)) := by
                intro h
                rcases h.2 with h | h | h
                · exact hc2 h
                · exact hm h
                · exact hodd h
              rw [if_neg hno]; simp [hodd]
      · rw [if_neg hc, decide_eq_false hc]
        refine Ev.neg (by decide) ?_
        have er : rup W d more = W / p2 d := by unfold rup; rw [if_neg (fun h => hc h.1)]
        by_cases hz : W % p2 d = 0
        · rw [show decide (W % p2 d ≠ 0) = false from by simp [hz]]
          refine Ev.neg (by decide) (Ev.succ ?_)
          simp only [round_Round.j1]
          refine Ev.neg (by decide) (j2 more (by cases more <;> simp [hz]) false ?_)
          rw [er]; rfl
        · rw [show decide (W % p2 d ≠ 0) = true from by simp [hz]]
          refine Ev.pos rfl (Ev.succ ?_)
          simp only [round_Round.j1]
          refine Ev.neg (by decide) (j2 true (by simp [hz]) false ?_)
          rw [er]; rfl
    · -- nothing falls out
      have hm : more = false := by
        cases hm : more
        · rfl
        · have := (hx1 hm).2; omega
      have hP := p2_pos (-d)
      have hx : x = ((W * p2 (-d) : Int) : Rat) * pw (E + d) := by
        rw [hx0 hm]
        have : pw E = (p2 (-d) : Rat) * pw (E + d) := by rw [← pw_p2 (by omega), ← pw_add]; congr 1; omega
        rw [this]; push_cast; grind
      have hn1 : W * p2 (-d) < 9007199254740992 := by
        have e53 : (9007199254740992 : Int) = p2 (blen W) * p2 (53 - blen W) := by rw [← p2_add (by omega) (by omega), show blen W + (53 - blen W) = 53 from by omega]; decide
        have h1 : W * p2 (-d) < p2 (blen W) * p2 (-d) := Int.mul_lt_mul_of_pos_right bl3 hP
        have h2 : p2 (blen W) * p2 (-d) ≤ p2 (blen W) * p2 (53 - blen W) := Int.mul_le_mul_of_nonneg_left (p2_le (by omega)) (Int.le_of_lt (p2_pos _))
        omega
      have hn0 : 0 < W * p2 (-d) := Int.mul_pos hW hP
      have hng : E + d = -1074 ∨ 4503599627370496 ≤ W * p2 (-d) := by
        rcases hq2 with h | h
        · exact .inl h
        · refine .inr ?_
          have e52 : (4503599627370496 : Int) = p2 (blen W - 1) * p2 (-d) := by rw [← p2_add (by omega) (by omega), show blen W - 1 + -d = 52 from by omega]; decide
          rw [e52]
          exact Int.mul_le_mul_of_nonneg_right bl2 (Int.le_of_lt hP)
      have hr : Rnd x (E + d) (W * p2 (-d)) := by rw [hx]; exact Rnd.self hq hn0 hn1 hng
      refine ⟨_, _, ?_, ⟨_, _, hr, rfl, rfl⟩⟩
      have efl : fl false (decide (x < pw (-1022))) = (if x = ((W * p2 (-d) : Int) : Rat) * pw (E + d) then 0 else if x < pw (-1022) then 3 else 1) := by
        rw [if_pos hx]; rfl
      rw [← efl]
      have tt : decide (x < pw (-1022)) = true → enc (E + d) (W * p2 (-d)) < INF := fun h => tiny_enc hr (of_decide_eq_true h)
      have fin : ∀ hi, Ev (fun k => round_Round.j4 k neg E d (decide (x < pw (-1022))) false hi (W * p2 (-d))) _ := fun hi =>
        round_j4 neg (decide (x < pw (-1022))) false (hi := hi) (by omega) (by omega) (by omega) (by omega) rfl hq (by omega) (Int.le_of_lt hn0) (by omega) hng tt
      refine Ev.succ ?_
      simp only [round_Round.j0, hm]
      refine Ev.neg hd ?_
      by_cases hd0 : d < 0
      · refine Ev.pos hd0 (Ev.succ ?_)
        simp only [round_Round.j3]
        refine Ev.pos rfl ?_
        rw [w64 (x := -d) (by omega) (by omega)]
        obtain ⟨a', b', e1, v1, v2, e2⟩ := wide_Left_small (n := -d) hh hl (by omega) (by rw [hWW]; omega)
        refine Ev.call e1 ?_
        dsimp only
        have eb : b' = W * p2 (-d) := by rw [hWW] at e2; unfold wv at e2; obtain ⟨x1, x2⟩ := v1; obtain ⟨x3, x4⟩ := v2; omega
        rw [eb]
        exact fin a'
      · obtain rfl : d = 0 := by omega
        refine Ev.neg hd0 (Ev.succ ?_)
        simp only [round_Round.j3]
        refine Ev.neg (by decide) (Ev.neg (by decide) ?_)
        have e1 : W * p2 (-0) = l := by
          rw [show p2 (-0) = 1 from rfl, Int.mul_one]
          have : W < 9007199254740992 := by rw [show p2 (-0) = 1 from rfl, Int.mul_one] at hn1; exact hn1
          unfold wv at hWW; obtain ⟨x1, x2⟩ := hh; obtain ⟨x3, x4⟩ := hl; omega
        have := fin h
        rw [e1] at this ⊢
        exact this
  unfold round_Round.f
  have hz := wide_Zero_eq hh hl
  rw [hWW, decide_eq_false (by omega)] at hz
  have hlen := wide_Len_ev hh hl
  rw [hWW] at hlen
  rw [emx]
  have e1 : wrap64 (blen W - 53) = blen W - 53 := w64 (by omega) (by omega)
  have e2 : wrap64 (E + (blen W - 53)) = E + (blen W - 53) := w64 (by omega) (by omega)
  by_cases hs : E + (blen W - 53) < -1074
  · obtain ⟨b, f, ev, rb⟩ := main (-1074 - E) (by omega) (by omega) (.inl (by omega)) (by omega) (by omega)
    refine ⟨b, f, Ev.call hz (Ev.neg (by decide) (Ev.bind hlen (Ev.bind hlen ?_))), rb⟩
    rw [e1, e2, ht, w64 (x := -1074 - E) (by omega) (by omega)]
    exact Ev.pos hs ev
  · obtain ⟨b, f, ev, rb⟩ := main (blen W - 53) (by omega) (by omega) (.inr rfl) (by omega) (by omega)
    refine ⟨b, f, Ev.call hz (Ev.neg (by decide) (Ev.bind hlen (Ev.bind hlen ?_))), rb⟩
    rw [e1, e2, ht]
    exact Ev.neg hs ev
theorem round_Round_zero (neg : Bool) (E : Int) : Ev (fun k => round_Round.f k neg 0 0 E false) (signed neg 0, 0) := by
  have U0 : U 0 := ⟨by decide, by decide⟩
  unfold round_Round.f
  refine Ev.call (wide_Zero_eq U0 U0) (Ev.pos (by decide) (Ev.neg (by decide) (Ev.call (word_Make_eq neg (by decide) (by decide) U0) ?_)))
  exact Ev.now _



theorem tiny_iff {W E : Int} {x : Rat} (hW : 0 < W) (lo : (W : Rat) * pw E ≤ x) (hi : x < (W + 1 : Int) * pw E) : x < pw (-1022) ↔ E + blen W ≤ -1022 := by
  obtain ⟨bl1, bl2, bl3⟩ := blen_pos hW
  have hxl : pw (blen W - 1 + E) ≤ x := by
    refine Rat.le_trans ?_ lo
    rw [pw_add, pw_p2 (a := blen W - 1) (by omega)]
    exact mul_pw_le.mpr bl2
  have hxr : x < pw (blen W + E) := by
    refine Std.lt_of_lt_of_le hi ?_
    rw [pw_add, pw_p2 (a := blen W) (by omega)]
    exact mul_pw_le.mpr (by omega)
  constructor
  · intro h
    exact Decidable.byContradiction fun hc => by
      have := pw_mono (show -1022 ≤ blen W - 1 + E from by omega)
      grind
  · intro h
    exact Std.lt_of_lt_of_le hxr (pw_mono (by omega))
/-- Two numbers between the same neighbours, far apart, are rounded alike. -/
theorem RB.near {W E : Int} {x y : Rat} {b f : Int} (hW : 0 < W) (h54 : 54 ≤ blen W) (hx : (W : Rat) * pw E < x ∧ x < (W + 1 : Int) * pw E) (hy : (W : Rat) * pw E < y ∧ y < (W + 1 : Int) * pw E) (h : RB x b f) : RB y b f := by
  have key : ∀ d, 0 < d → -1074 ≤ E + d → blen W - 53 ≤ d → (E + d = -1074 ∨ d = blen W - 53) → RB y b f := by
    intro d h1 h2 h3 h4
    obtain ⟨rx, ex⟩ := rup_rnd (more := true) hW h1 h2 h3 h4 (fun h => by cases h) (fun _ => hx)
    obtain ⟨ry, ey⟩ := rup_rnd (more := true) hW h1 h2 h3 h4 (fun h => by cases h) (fun _ => hy)
    obtain ⟨q, n, hr, rfl, rfl⟩ := h.ex
    obtain ⟨rfl, rfl⟩ := hr.unique rx
    refine ⟨_, _, ry, rfl, ?_⟩
    have nx : ¬ x = (rup W d true : Rat) * pw (E + d) := fun h => by have := (ex.mp h).2; cases this
    have ny : ¬ y = (rup W d true : Rat) * pw (E + d) := fun h => by have := (ey.mp h).2; cases this
    have t : x < pw (-1022) ↔ y < pw (-1022) := by rw [tiny_iff hW (Rat.le_of_lt hx.1) hx.2, tiny_iff hW (Rat.le_of_lt hy.1) hy.2]
    rw [if_neg nx, if_neg ny]
    simp only [t]
  by_cases c : E + blen W - 53 < -1074
  · exact key (-1074 - E) (by omega) (by omega) (by omega) (.inl (by omega))
  · exact key (blen W - 53) (by omega) (by omega) (by omega) (.inr rfl)

/-- The pattern without its sign; the sign; the value of a number. -/
def mag (a : Int) : Int := a % 9223372036854775808
def neg (a : Int) : Bool := decide (9223372036854775808 ≤ a)
def fin (a : Int) : Prop := mag a < INF
def val (a : Int) : Rat := if neg a then -vm (mag a) else vm (mag a)
instance (a : Int) : Decidable (fin a) := by unfold fin; exact inferInstance

theorem mag_lt {a : Int} : 0 ≤ mag a ∧ mag a < 9223372036854775808 := by unfold mag; omega
theorem mag_signed {s : Bool} {m : Int} (h0 : 0 ≤ m) (h1 : m < 9223372036854775808) : mag (signed s m) = m := by unfold mag signed; cases s <;> simp <;> omega
theorem neg_signed {s : Bool} {m : Int} (h0 : 0 ≤ m) (h1 : m < 9223372036854775808) : neg (signed s m) = s := by
  unfold neg signed
  cases s
  · simp; omega
  · simp; omega
theorem signed_eta {a : Int} (h : U a) : signed (neg a) (mag a) = a := by
  obtain ⟨h0, h1⟩ := h
  unfold signed neg mag
  by_cases c : 9223372036854775808 ≤ a
  · simp [c]; omega
  · simp [c]; omega
theorem U_signed {s : Bool} {m : Int} (h0 : 0 ≤ m) (h1 : m < 9223372036854775808) : U (signed s m) := by
  unfold U signed; cases s <;> simp <;> omega
theorem U_flip {a : Int} (h : U a) : U (flip a) := by obtain ⟨h0, h1⟩ := h; unfold U flip; split <;> omega
theorem mag_flip {a : Int} (h : U a) : mag (flip a) = mag a := by obtain ⟨h0, h1⟩ := h; unfold mag flip; split <;> omega
theorem neg_flip {a : Int} (h : U a) : neg (flip a) = !neg a := by
  obtain ⟨h0, h1⟩ := h
  unfold neg flip
  by_cases c : a < 9223372036854775808
  · rw [if_pos c, decide_eq_true (by omega), decide_eq_false (by omega)]; rfl
  · rw [if_neg c, decide_eq_false (by omega), decide_eq_true (by omega)]; rfl
theorem val_flip {a : Int} (h : U a) : val (flip a) = -val a := by
  unfold val
  rw [mag_flip h, neg_flip h]
  cases neg a <;> simp
theorem val_signed {s : Bool} {m : Int} (h0 : 0 ≤ m) (h1 : m < 9223372036854775808) : val (signed s m) = if s then -vm m else vm m := by
  unfold val; rw [mag_signed h0 h1, neg_signed h0 h1]
theorem val_zero_iff {a : Int} : val a = 0 ↔ mag a = 0 := by
  unfold val
  have h0 := (mag_lt (a := a)).1
  constructor
  · intro h
    by_cases hm : mag a = 0
    · exact hm
    · have := vm_pos (m := mag a) (by omega)
      cases hn : neg a <;> simp [hn] at h <;> grind
  · intro h
    rw [h, vm_zero]
    cases neg a <;> simp
theorem val_pos {a : Int} (hs : neg a = false) : 0 ≤ val a := by unfold val; rw [hs]; exact vm_nonneg mag_lt.1
theorem val_abs (a : Int) : vm (mag a) = if val a < 0 then -val a else val a := by
  have h0 := vm_nonneg (mag_lt (a := a)).1
  unfold val
  cases neg a <;> simp <;> grind

/-- The magnitude of a rational number. -/
def rabs (x : Rat) : Rat := if x < 0 then -x else x
theorem rabs_nonneg (x : Rat) : 0 ≤ rabs x := by unfold rabs; grind
theorem rabs_pos {x : Rat} (h : x ≠ 0) : 0 < rabs x := by unfold rabs; grind
theorem rabs_neg (x : Rat) : rabs (-x) = rabs x := by unfold rabs; grind
theorem rabs_mul (X Y : Rat) : rabs (X * Y) = rabs X * rabs Y := by
  unfold rabs
  by_cases c1 : X < 0 <;> by_cases c2 : Y < 0
  · have := Rat.mul_pos (show 0 < -X by grind) (show 0 < -Y by grind)
    rw [if_pos c1, if_pos c2, if_neg (by grind)]; grind
  · have := Rat.mul_nonneg (show 0 ≤ -X by grind) (show 0 ≤ Y by grind)
    rw [if_pos c1, if_neg c2]
    by_cases c3 : X * Y < 0
    · rw [if_pos c3]; grind
    · rw [if_neg c3]; grind
  · have := Rat.mul_nonneg (show 0 ≤ X by grind) (show 0 ≤ -Y by grind)
    rw [if_neg c1, if_pos c2]
    by_cases c3 : X * Y < 0
    · rw [if_pos c3]; grind
    · rw [if_neg c3]; grind
  · have := Rat.mul_nonneg (show 0 ≤ X by grind) (show 0 ≤ Y by grind)
    rw [if_neg c1, if_neg c2, if_neg (by grind)]
theorem rabs_val (a : Int) : rabs (val a) = vm (mag a) := (val_abs a).symm

/-- A number, rounded: the pattern and the flags; z: the sign of a zero. -/
structure Rd (x : Rat) (z : Bool) (r f : Int) : Prop where
  zero : x = 0 → r = signed z 0 ∧ f = 0
  num : x ≠ 0 → ∃ m, RB (rabs x) m f ∧ r = signed (decide (x < 0)) m

theorem Rd.unique {x : Rat} {z : Bool} {r f r' f' : Int} (h : Rd x z r f) (h' : Rd x z r' f') : r = r' ∧ f = f' := by
  by_cases hx : x = 0
  · obtain ⟨rfl, rfl⟩ := h.zero hx
    obtain ⟨rfl, rfl⟩ := h'.zero hx
    exact ⟨rfl, rfl⟩
  · obtain ⟨m, h1, rfl⟩ := h.num hx
    obtain ⟨m', h1', rfl⟩ := h'.num hx
    obtain ⟨rfl, rfl⟩ := h1.unique h1'
    exact ⟨rfl, rfl⟩
theorem Rd.range {x : Rat} {z : Bool} {r f : Int} (h : Rd x z r f) : U r ∧ mag r ≤ INF := by
  by_cases hx : x = 0
  · obtain ⟨rfl, _⟩ := h.zero hx
    exact ⟨U_signed (by decide) (by decide), by rw [mag_signed (by decide) (by decide)]; decide⟩
  · obtain ⟨m, h1, rfl⟩ := h.num hx
    have := h1.range
    have hI : INF < 9223372036854775808 := by decide
    exact ⟨U_signed this.1 (by omega), by rw [mag_signed this.1 (by omega)]; exact this.2⟩
theorem Rd.sign {x : Rat} {z : Bool} {r f : Int} (h : Rd x z r f) : neg r = if x = 0 then z else decide (x < 0) := by
  by_cases hx : x = 0
  · obtain ⟨rfl, _⟩ := h.zero hx
    rw [if_pos hx, neg_signed (by decide) (by decide)]
  · obtain ⟨m, h1, rfl⟩ := h.num hx
    have := h1.range
    have hI : INF < 9223372036854775808 := by decide
    rw [if_neg hx, neg_signed this.1 (by omega)]
/-- A number that is a pattern's is rounded to it, if it isn't zero. -/
theorem Rd.self {a : Int} (ha : U a) (hf : fin a) (h0 : mag a ≠ 0) (z : Bool) : Rd (val a) z a 0 := by
  have hv : val a ≠ 0 := fun h => h0 (val_zero_iff.mp h)
  have hm := (mag_lt (a := a)).1
  refine ⟨fun h => absurd h hv, fun _ => ⟨mag a, ?_, ?_⟩⟩
  · rw [rabs_val]; exact RB.self (by omega) hf
  · have e : decide (val a < 0) = neg a := by
      have := vm_pos (m := mag a) (by omega)
      unfold val
      cases neg a <;> simp <;> grind
    rw [e, signed_eta ha]
/-- Where nothing was lost, the pattern is the number. -/
theorem Rd.exact {x : Rat} {z : Bool} {r : Int} (h : Rd x z r 0) : val r = x ∧ fin r := by
  have hI : INF < 9223372036854775808 := by decide
  by_cases hx : x = 0
  · obtain ⟨rfl, _⟩ := h.zero hx
    refine ⟨?_, ?_⟩
    · rw [val_signed (by decide) (by decide), vm_zero, hx]; cases z <;> simp
    · unfold fin; rw [mag_signed (by decide) (by decide)]; decide
  · obtain ⟨m, h1, rfl⟩ := h.num hx
    have hr := h1.range
    obtain ⟨q, n, hq, e1, e2⟩ := h1.ex
    by_cases c : enc q n < INF
    · rw [if_pos c] at e1 e2
      have e3 : rabs x = (n : Rat) * pw q := by
        by_cases c2 : rabs x = (n : Rat) * pw q
        · exact c2
        · rw [if_neg c2] at e2; split at e2 <;> omega
      subst e1
      refine ⟨?_, ?_⟩
      · rw [val_signed hr.1 (by omega), hq.val_enc, ← e3]
        unfold rabs
        by_cases c3 : x < 0
        · simp [c3]
        · simp [c3]
      · unfold fin; rw [mag_signed hr.1 (by omega)]; exact c
    · rw [if_neg c] at e2; omega
/-- And the other way. -/
theorem Rd.of_exact {x : Rat} {z : Bool} {r f : Int} (h : Rd x z r f) {a : Int} (ha : U a) (hf : fin a) (he : val a = x) : f = 0 ∧ (x ≠ 0 → r = a) := by
  by_cases hx : x = 0
  · exact ⟨(h.zero hx).2, fun h => absurd hx h⟩
  · subst he
    have := h.unique (Rd.self ha hf (fun h => hx (val_zero_iff.mpr h)) z)
    exact ⟨this.2, fun _ => this.1⟩

theorem U_0 : U 0 := ⟨by decide, by decide⟩
theorem U_1 : U 1 := ⟨by decide, by decide⟩
def isNan (a : Int) : Bool := decide (INF < mag a)
def QNAN : Int := 9221120237041090560
def nanF (a b : Int) : Int := if signals a || signals b then 16 else 0

theorem kind_mag (a : Int) : kindOf (a % 9223372036854775808) = kindOf (mag a) := rfl
theorem kind_nan {a : Int} : kindOf (mag a) = 5 ↔ isNan a = true := by rw [kind5 mag_lt.1]; unfold isNan INF; simp
theorem kind_inf {a : Int} : kindOf (mag a) = 4 ↔ mag a = INF := kind4 mag_lt.1
theorem kind_zero {a : Int} : kindOf (mag a) = 1 ↔ mag a = 0 := kind1
theorem signals_nan {a : Int} (h : signals a = true) : isNan a = true := by unfold signals at h; unfold isNan INF mag; simp at h ⊢; exact h.1
theorem fin_nan {a : Int} (h : fin a) : isNan a = false := by unfold fin at h; unfold isNan; simp; omega
theorem expo_mono {m m' : Int} (h0 : 0 ≤ m) (h : m ≤ m') : expo m ≤ expo m' := by unfold expo; grind
theorem fin_expo {a : Int} (h : fin a) : -1074 ≤ expo (mag a) ∧ expo (mag a) ≤ 971 := by
  have h0 := (mag_lt (a := a)).1
  unfold fin INF at h
  unfold expo
  split <;> omega
theorem wl64 {m : Int} (h0 : 0 ≤ m) (h1 : m < 18446744073709551616) : wide_Wide_Left.f 0 m 64 = some (m, 0) := by
  obtain ⟨a, b, e, u1, u2, ev⟩ := wide_Left_eq (h := 0) (l := m) (n := 64) U_0 ⟨h0, h1⟩ (by decide)
  rw [e]
  have : wv m 0 = wv a b := by
    rw [ev, p2_64]
    unfold wv; omega
  obtain ⟨rfl, rfl⟩ := wv_inj ⟨h0, h1⟩ U_0 u1 u2 this
  rfl

/-- Signs and magnitudes of a sum. -/
theorem val_eq (a : Int) : val a = (if neg a then -1 else 1) * vm (mag a) := by unfold val; cases neg a <;> simp <;> grind


theorem neg_def (a : Int) : decide (9223372036854775808 ≤ a) = neg a := rfl
theorem make_inf (s : Bool) : word_Make.f s 2047 0 = some (signed s INF) := by
  rw [word_Make_eq s (by decide) (by decide) U_0]; rfl
/-- What Parts answers of a number, zero or not. -/
theorem Parts_fin {a : Int} (ha : U a) (fa : fin a) : ∃ m e, Ev (fun k => word_Parts.f k a) (m, e) ∧ 0 ≤ m ∧ m < 9007199254740992 ∧ -1074 ≤ e ∧ e ≤ 971 ∧ vm (mag a) = (m : Rat) * pw e ∧ (m = 0 ↔ mag a = 0) := by
  have h0 := (mag_lt (a := a)).1
  by_cases z : mag a = 0
  · refine ⟨0, 0, word_Parts_none ha (.inl z), by decide, by decide, by decide, by decide, ?_, by simp [z]⟩
    rw [z, vm_zero]; grind
  · have := fin_expo fa
    have hp := mant_pos (m := mag a) (by omega)
    exact ⟨mant (mag a), expo (mag a), word_Parts_ev ha (show 0 < mag a by omega) fa, by omega, mant_lt, this.1, this.2, rfl, by constructor <;> intro h <;> omega⟩
theorem nan_or {a b : Int} (h : ¬ (isNan a || isNan b) = true) : (isNan a || isNan b) = false ∧ isNan a = false ∧ isNan b = false := by
  cases h1 : isNan a <;> cases h2 : isNan b <;> rw [h1, h2] at h <;> simp at h ⊢
theorem fin_of {a : Int} (h1 : isNan a = false) (h2 : mag a ≠ INF) : fin a := by
  unfold isNan at h1; unfold fin; simp at h1; omega
theorem not_inf {a : Int} (h : fin a) : mag a ≠ INF := by unfold fin at h; omega
/-- The flags are small. -/
theorem RB.flags {x : Rat} {b f : Int} (h : RB x b f) : 0 ≤ f ∧ f ≤ 16 := by
  obtain ⟨q, n, _, _, rfl⟩ := h.ex
  split
  · split
    · omega
    · split <;> omega
  · omega
theorem Rd.flags {x : Rat} {z : Bool} {r f : Int} (h : Rd x z r f) : 0 ≤ f ∧ f ≤ 16 := by
  by_cases hx : x = 0
  · have := (h.zero hx).2; omega
  · obtain ⟨m, rb, _⟩ := h.num hx; exact rb.flags
theorem nanF_le (a b : Int) : 0 ≤ nanF a b ∧ nanF a b ≤ 16 := by unfold nanF; split <;> omega

theorem INF_lt : 0 ≤ INF ∧ INF < 9223372036854775808 := by decide
def sgd (s : Bool) (X : Int) : Int := if s then -X else X
theorem Rd.any {x : Rat} {z z' : Bool} {r f : Int} (h : Rd x z r f) (hx : x ≠ 0) : Rd x z' r f := ⟨fun h => absurd h hx, h.num⟩
theorem int_pw_neg {S E : Int} : (S : Rat) * pw E < 0 ↔ S < 0 := by
  have := mul_pw_lt (a := S) (b := 0) (e := E)
  rw [← this]; simp
theorem int_pw_zero {S E : Int} : (S : Rat) * pw E = 0 ↔ S = 0 := by
  constructor
  · intro h; exact mul_pw_inj (a := S) (b := 0) (e := E) (by rw [h]; simp)
  · intro h; rw [h]; simp
theorem rabs_sgd (s : Bool) {X E : Int} (hX : 0 ≤ X) : rabs ((sgd s X : Rat) * pw E) = (X : Rat) * pw E := by
  have h0 : 0 ≤ (X : Rat) * pw E := by have := mul_pw_le (a := 0) (b := X) (e := E); simpa using this.mpr hX
  have e1 : rabs ((X : Rat) * pw E) = (X : Rat) * pw E := by unfold rabs; rw [if_neg (by grind)]
  unfold sgd
  cases s
  · exact e1
  · show rabs (((-X : Int) : Rat) * pw E) = _
    have e2 : ((-X : Int) : Rat) * pw E = -((X : Rat) * pw E) := by push_cast; grind
    rw [e2, rabs_neg, e1]
/-- The parts as the reference's Mul and Div take them. -/
theorem val_mant (a : Int) : val a = (sgd (neg a) (mant (mag a)) : Rat) * pw (expo (mag a)) := by
  rw [val_eq]; unfold vm sgd; cases neg a <;> simp <;> grind
theorem mant_U (a : Int) : U (mant (mag a)) := ⟨mant_nonneg mag_lt.1, by have := mant_lt (m := mag a); omega⟩
theorem make_zero (s : Bool) : word_Make.f s 0 0 = some (signed s 0) := by
  rw [word_Make_eq s (by decide) (by decide) U_0]; rfl

theorem soft_nan_step {l : List Int} {i n f : Int} {s : Bool} {r : Int × Int × Bool} (h0 : 0 ≤ i) (h1 : i < n) (h2 : i < (l.length : Int)) (hn : n ≤ 1000) (hU : U (rd l i))
    (h : Ev (fun k => soft_nan.l0 k (if signals (rd l i) then 16 else f) (s || isNan (rd l i)) l n (i + 1)) r) : Ev (fun k => soft_nan.l0 k f s l n i) r := by
  refine Ev.succ ?_
  simp only [soft_nan.l0]
  rw [w64 (x := i + 1) (by omega) (by omega)]
  refine Ev.pos h1 (Ev.pos h0 (Ev.pos h2 (Ev.bind (word_Kind_ev hU) ?_)))
  rw [kind_mag]
  by_cases hk : kindOf (mag (rd l i)) = 5
  · refine Ev.pos hk (Ev.bind (word_Signals_ev hU) ?_)
    rw [kind_nan.mp hk] at h
    by_cases hs : signals (rd l i) = true
    · rw [if_pos hs] at h
      refine Ev.pos hs ?_
      rw [Bool.or_true] at h; exact h
    · rw [if_neg hs] at h
      refine Ev.neg hs ?_
      rw [Bool.or_true] at h; exact h
  · refine Ev.neg hk ?_
    have hn : isNan (rd l i) = false := by
      cases hc : isNan (rd l i)
      · rfl
      · exact absurd (kind_nan.mpr hc) hk
    have hs : signals (rd l i) = false := by
      cases hc : signals (rd l i)
      · rfl
      · have := signals_nan hc; rw [hn] at this; cases this
    rw [hn, hs] at h
    simpa using h
theorem soft_nan_end {l : List Int} {i n f : Int} {s : Bool} (h1 : ¬ i < n) : Ev (fun k => soft_nan.l0 k f s l n i) (QNAN, f, s) := by
  refine Ev.succ ?_
  simp only [soft_nan.l0]
  exact Ev.neg h1 (Ev.now _)
theorem soft_nan2 {a b : Int} (ha : U a) (hb : U b) : Ev (fun k => soft_nan.f k [a, b]) (QNAN, nanF a b, isNan a || isNan b) := by
  unfold soft_nan.f
  refine soft_nan_step (by decide) (by simp) (by simp) (by simp) ha ?_
  refine soft_nan_step (by decide) (by simp) (by simp) (by simp) hb ?_
  have e : (if signals (rd [a, b] (0 + 1)) then (16 : Int) else if signals (rd [a, b] 0) then 16 else 0) = nanF a b := by
    show (if signals b then (16 : Int) else if signals a then 16 else 0) = nanF a b
    unfold nanF
    cases signals a <;> cases signals b <;> rfl
  have e2 : (false || isNan (rd [a, b] 0) || isNan (rd [a, b] (0 + 1))) = (isNan a || isNan b) := by
    show (false || isNan a || isNan b) = _
    rw [Bool.false_or]
  rw [e, e2]
  exact soft_nan_end (by simp)



theorem bits_Mul64_eq {a b : Int} (ha : U a) (hb : U b) : bits_Mul64.f a b = some (a * b / 18446744073709551616, a * b % 18446744073709551616) := by
  have ha' := ha
  have hb' := hb
  obtain ⟨a0, a1⟩ := ha
  obtain ⟨b0, b1⟩ := hb
  unfold bits_Mul64.f
  rw [u64_and32 a0 a1, u64_and32 b0 b1]
  have hA : 0 ≤ a / 4294967296 ∧ a / 4294967296 ≤ 4294967295 := by omega
  have hB : 0 ≤ b / 4294967296 ∧ b / 4294967296 ≤ 4294967295 := by omega
  have hC : 0 ≤ a % 4294967296 ∧ a % 4294967296 ≤ 4294967295 := by omega
  have hD : 0 ≤ b % 4294967296 ∧ b % 4294967296 ≤ 4294967295 := by omega
  have e : a * b = (a / 4294967296 * (b / 4294967296)) * 18446744073709551616 + (a / 4294967296 * (b % 4294967296) + a % 4294967296 * (b / 4294967296)) * 4294967296 + a % 4294967296 * (b % 4294967296) := by
    have e1 : a = a / 4294967296 * 4294967296 + a % 4294967296 := by omega
    have e2 : b = b / 4294967296 * 4294967296 + b % 4294967296 := by omega
    generalize a / 4294967296 = x at *
    generalize a % 4294967296 = y at *
    generalize b / 4294967296 = z at *
    generalize b % 4294967296 = w at *
    subst e1 e2
    grind
  obtain ⟨p0, p1⟩ := mul_bound hA.1 hB.1 hA.2 hB.2
  obtain ⟨q0, q1⟩ := mul_bound hA.1 hD.1 hA.2 hD.2
  obtain ⟨r0, r1⟩ := mul_bound hC.1 hB.1 hC.2 hB.2
  obtain ⟨s0, s1⟩ := mul_bound hC.1 hD.1 hC.2 hD.2
  have hm : a * b < 340282366920938463463374607431768211456 := by
    have := (mul_bound a0 b0 (show a ≤ 18446744073709551615 by omega) (show b ≤ 18446744073709551615 by omega)).2
    omega
  have hm0 : 0 ≤ a * b := Int.mul_nonneg a0 b0
  rw [wu64_mod (a * b)]
  generalize a * b = X at *
  generalize a / 4294967296 * (b / 4294967296) = P at *
  generalize a / 4294967296 * (b % 4294967296) = Q at *
  generalize a % 4294967296 * (b / 4294967296) = R at *
  generalize a % 4294967296 * (b % 4294967296) = S at *
  rw [wu64 (x := S) (by omega) (by omega), wu64 (x := Q) (by omega) (by omega), wu64 (x := Q + S / 4294967296) (by omega) (by omega), u64_and32 (by omega) (by omega),
    wu64 (x := R) (by omega) (by omega), wu64 (x := P) (by omega) (by omega), wu64 (x := P + (Q + S / 4294967296) / 4294967296) (by omega) (by omega),
    wu64 (x := (Q + S / 4294967296) % 4294967296 + R) (by omega) (by omega), wu64 (by omega) (by omega)]
  congr 2
  omega
theorem wide_Mul_eq {a b : Int} (ha : U a) (hb : U b) : ∃ h l, wide_Mul.f a b = some (h, l) ∧ U h ∧ U l ∧ wv h l = a * b := by
  unfold wide_Mul.f
  rw [bits_Mul64_eq ha hb]
  obtain ⟨a0, a1⟩ := ha
  obtain ⟨b0, b1⟩ := hb
  have hm : a * b < 340282366920938463463374607431768211456 := by
    have := (mul_bound a0 b0 (show a ≤ 18446744073709551615 by omega) (show b ≤ 18446744073709551615 by omega)).2
    omega
  have hm0 : 0 ≤ a * b := Int.mul_nonneg a0 b0
  simp only [Option.bind_some]
  generalize a * b = X at *
  exact ⟨_, _, rfl, ⟨by omega, by omega⟩, ⟨by omega, by omega⟩, by unfold wv; omega⟩


theorem wide_Cmp_ev {h l h' l' : Int} (hh : U h) (hl : U l) (hh' : U h') (hl' : U l') : Ev (fun k => wide_Wide_Cmp.f k h l h' l') (sgn (wv h l - wv h' l')) := by
  obtain ⟨x0, x1⟩ := hh; obtain ⟨x2, x3⟩ := hl; obtain ⟨x4, x5⟩ := hh'; obtain ⟨x6, x7⟩ := hl'
  have j0 : ∀ lt : Bool, (lt = true ↔ wv h l < wv h' l') → Ev (fun k => wide_Wide_Cmp.j0 k lt h l h' l') (sgn (wv h l - wv h' l')) := by
    intro lt hlt
    refine Ev.succ ?_
    simp only [wide_Wide_Cmp.j0]
    cases lt
    · have n1 : ¬ wv h l < wv h' l' := fun hc => by have := hlt.mpr hc; cases this
      refine Ev.neg (by decide) ?_
      by_cases c : (h == h' && l == l') = true
      · have c' : h = h' ∧ l = l' := by simpa using c
        obtain ⟨rfl, rfl⟩ := c'
        refine Ev.pos c ?_
        unfold sgn; rw [if_neg (by omega), if_pos (by omega)]
        exact Ev.now _
      · refine Ev.neg c ?_
        have c' : ¬ (h = h' ∧ l = l') := by simpa using c
        unfold sgn wv at *
        rw [if_neg (by omega), if_neg (by omega)]
        exact Ev.now _
    · have n1 := hlt.mp rfl
      refine Ev.pos rfl ?_
      unfold sgn; rw [if_pos (by omega)]
      exact Ev.now _
  unfold wide_Wide_Cmp.f
  by_cases c : h < h'
  · exact Ev.pos c (j0 true (by simp; unfold wv; omega))
  · refine Ev.neg c ?_
    by_cases c2 : h = h'
    · exact Ev.pos c2 (j0 _ (by simp; unfold wv; omega))
    · exact Ev.neg c2 (j0 false (by simp; unfold wv; omega))
theorem sgn_le {x : Int} : sgn x ≤ 0 ↔ x ≤ 0 := by unfold sgn; constructor <;> intro h <;> revert h <;> split <;> (try split) <;> omega


/-- The root of v, rounded: W 2^E and (W+1) 2^E are its neighbours. -/
def SqX (v : Rat) (m f : Int) : Prop := ∃ W E : Int, 0 < W ∧ 54 ≤ blen W ∧ ((W : Rat) * pw E) * ((W : Rat) * pw E) ≤ v ∧ v < ((W + 1 : Int) * pw E) * ((W + 1 : Int) * pw E) ∧
  (((W : Rat) * pw E) * ((W : Rat) * pw E) = v → RB ((W : Rat) * pw E) m f) ∧ (((W : Rat) * pw E) * ((W : Rat) * pw E) ≠ v → ∀ y, (W : Rat) * pw E < y → y < (W + 1 : Int) * pw E → RB y m f)

theorem sq_lt {a b : Rat} (ha : 0 ≤ a) (hb : 0 ≤ b) (h : a * a < b * b) : a < b := by
  refine Decidable.byContradiction fun hc => ?_
  have h1 : b ≤ a := by grind
  have h2 := Rat.mul_le_mul_of_nonneg_right h1 hb
  have h3 := Rat.mul_le_mul_of_nonneg_left h1 ha
  grind
theorem SqX.unique {v : Rat} {m f m' f' : Int} (h : SqX v m f) (h' : SqX v m' f') : m = m' ∧ f = f' := by
  obtain ⟨W, E, w0, w1, lo, hi, ex, ne⟩ := h
  obtain ⟨W', E', w0', w1', lo', hi', ex', ne'⟩ := h'
  have p : ∀ {W E : Int}, 0 < W → 0 < (W : Rat) * pw E := by
    intro W E hW
    have := mul_pw_lt (a := 0) (b := W) (e := E)
    simpa using this.mpr hW
  have q1 := p (E := E) w0
  have q2 := p (E := E') w0'
  have q3 := p (E := E) (W := W + 1) (by omega)
  have q4 := p (E := E') (W := W' + 1) (by omega)
  generalize (W : Rat) * pw E = a at *
  generalize (W' : Rat) * pw E' = a' at *
  generalize ((W + 1 : Int) : Rat) * pw E = b at *
  generalize ((W' + 1 : Int) : Rat) * pw E' = b' at *
  have h1 : a < b := sq_lt (by grind) (by grind) (by grind)
  have h2 : a < b' := sq_lt (by grind) (by grind) (by grind)
  have h3 : a' < b := sq_lt (by grind) (by grind) (by grind)
  have h4 : a' < b' := sq_lt (by grind) (by grind) (by grind)
  by_cases c : a * a = v
  · by_cases c' : a' * a' = v
    · have e : a = a' := by
        have l1 : ¬ a < a' := fun h => by have := Rat.mul_lt_mul_of_pos_right h q2; have := Rat.mul_lt_mul_of_pos_left h q1; grind
        have l2 : ¬ a' < a := fun h => by have := Rat.mul_lt_mul_of_pos_right h q1; have := Rat.mul_lt_mul_of_pos_left h q2; grind
        grind
      subst e
      exact (ex c).unique (ex' c')
    · exact (ex c).unique (ne' c' a (sq_lt (by grind) (by grind) (by grind)) h2)
  · by_cases c' : a' * a' = v
    · exact (ne c a' (sq_lt (by grind) (by grind) (by grind)) h3).unique (ex' c')
    · -- a number between both pairs of neighbours
      have : ∃ y, a < y ∧ y < b ∧ a' < y ∧ y < b' := by
        have mid : ∀ {u w : Rat}, u < w → u < (u + w) / 2 ∧ (u + w) / 2 < w := by intro u w h; constructor <;> grind
        by_cases c1 : a ≤ a' <;> by_cases c2 : b ≤ b'
        · have := mid h3; exact ⟨(a' + b) / 2, by grind, by grind, by grind, by grind⟩
        · have := mid h4; exact ⟨(a' + b') / 2, by grind, by grind, by grind, by grind⟩
        · have := mid h1; exact ⟨(a + b) / 2, by grind, by grind, by grind, by grind⟩
        · have := mid h2; exact ⟨(a + b') / 2, by grind, by grind, by grind, by grind⟩
      obtain ⟨y, y1, y2, y3, y4⟩ := this
      exact (ne c y y1 y2).unique (ne' c' y y3 y4)

theorem wide_Sqrt_loop {h l : Int} (hh : U h) (hl : U l) (n : Nat) : n ≤ 64 → ∀ root : Int, 0 ≤ root → root % 2 ^ n = 0 → root + 2 ^ n ≤ 18446744073709551616 → root * root ≤ wv h l → wv h l < (root + 2 ^ n) * (root + 2 ^ n) →
    ∃ r, Ev (fun k => wide_Wide_Sqrt.l0 k root ((n : Int) - 1) h l) (r, decide (r * r = wv h l)) ∧ 0 ≤ r ∧ r < 18446744073709551616 ∧ r * r ≤ wv h l ∧ wv h l < (r + 1) * (r + 1) := by
  induction n with
  | zero =>
    intro _ root r0 rm r1 lo hi
    simp only [Int.pow_zero] at r1 hi
    obtain ⟨a, b, ew, u1, u2, ev⟩ := wide_Mul_eq (a := root) (b := root) ⟨r0, by omega⟩ ⟨r0, by omega⟩
    refine ⟨root, Ev.succ ?_, r0, by omega, lo, hi⟩
    simp only [wide_Wide_Sqrt.l0]
    refine Ev.neg (by omega) (Ev.call ew ?_)
    dsimp only
    have e : (a == h && b == l) = decide (root * root = wv h l) := by
      rw [Bool.eq_iff_iff]; simp
      rw [← ev]
      constructor
      · rintro ⟨rfl, rfl⟩; rfl
      · intro hc; exact wv_inj u1 u2 hh hl hc
    rw [e]
    exact Ev.now _
  | succ m ih =>
    intro hn root r0 rm r1 lo hi
    have hp : (0 : Int) < 2 ^ m := Int.pow_pos (by decide)
    have hs : (2 : Int) ^ (m + 1) = 2 * 2 ^ m := by rw [Int.pow_succ, Int.mul_comm]
    have es : shl .u64 1 (m : Int) = 2 ^ m := by
      rw [shl_u64 (by omega) (by omega), Int.one_mul]
      exact Int.emod_eq_of_lt (Int.le_of_lt hp) (by show (2 : Int) ^ m < _; omega)
    have eo : Go.bits .or .u64 root (2 ^ m) = root + 2 ^ m := u64_or (m + 1) r0 rm (by omega) (by omega) (by omega) (by omega)
    have e0 : ((m + 1 : Nat) : Int) - 1 = (m : Int) := by omega
    have rm' : root % 2 ^ m = 0 := by
      have := Int.emod_emod_of_dvd root (⟨2, by rw [hs, Int.mul_comm]⟩ : (2 : Int) ^ m ∣ 2 ^ (m + 1))
      rw [rm] at this; rw [← this]; simp
    obtain ⟨a, b, ew, u1, u2, ev⟩ := wide_Mul_eq (a := root + 2 ^ m) (b := root + 2 ^ m) ⟨by omega, by omega⟩ ⟨by omega, by omega⟩
    have kc := wide_Cmp_ev u1 u2 hh hl
    rw [ev] at kc
    have le := sgn_le (x := (root + 2 ^ m) * (root + 2 ^ m) - wv h l)
    by_cases c : (root + 2 ^ m) * (root + 2 ^ m) - wv h l ≤ 0
    · obtain ⟨r, er, rest⟩ := ih (by omega) (root + 2 ^ m) (by omega) (by rw [Int.add_emod, rm']; simp) (by omega) (by omega) (by rw [show root + 2 ^ m + 2 ^ m = root + 2 ^ (m + 1) from by omega]; exact hi)
      refine ⟨r, Ev.succ ?_, rest⟩
      simp only [wide_Wide_Sqrt.l0]
      rw [e0, es, eo, w64 (x := (m : Int) - 1) (by omega) (by omega)]
      exact Ev.pos (by omega) (Ev.pos (by omega) (Ev.call ew (Ev.bind kc (Ev.pos (le.mpr c) er))))
    · obtain ⟨r, er, rest⟩ := ih (by omega) root r0 rm' (by omega) lo (by omega)
      refine ⟨r, Ev.succ ?_, rest⟩
      simp only [wide_Wide_Sqrt.l0]
      rw [e0, es, eo, w64 (x := (m : Int) - 1) (by omega) (by omega)]
      exact Ev.pos (by omega) (Ev.pos (by omega) (Ev.call ew (Ev.bind kc (Ev.neg (fun hc => c (le.mp hc)) er))))
theorem wide_Sqrt_ev {h l : Int} (hh : U h) (hl : U l) : ∃ r, Ev (fun k => wide_Wide_Sqrt.f k h l) (r, decide (r * r = wv h l)) ∧ 0 ≤ r ∧ r < 18446744073709551616 ∧ r * r ≤ wv h l ∧ wv h l < (r + 1) * (r + 1) := by
  unfold wide_Wide_Sqrt.f
  have hw := wv_range hh hl
  have e : ((0 : Int) + 2 ^ 64) * (0 + 2 ^ 64) = 340282366920938463463374607431768211456 := by decide
  exact wide_Sqrt_loop hh hl 64 (by decide) 0 (by decide) (by decide) (by decide) (by omega) (by rw [e]; exact hw.2)

/-- From a whole root on: told by neighbours. -/
theorem SqX.of {A W E : Int} {v : Rat} {m f : Int} (hv : v = (A : Rat) * pw (2 * E)) (hW : 0 < W) (h54 : 54 ≤ blen W) (lo : W * W ≤ A) (hi : A < (W + 1) * (W + 1))
    (h0 : W * W = A → RB ((W : Rat) * pw E) m f) (h1 : W * W ≠ A → ∃ y, (W : Rat) * pw E < y ∧ y < (W + 1 : Int) * pw E ∧ RB y m f) : SqX v m f := by
  have sq : ∀ X : Int, ((X : Rat) * pw E) * ((X : Rat) * pw E) = ((X * X : Int) : Rat) * pw (2 * E) := by
    intro X
    rw [show 2 * E = E + E from by omega, pw_add]; push_cast; grind
  refine ⟨W, E, hW, h54, ?_, ?_, ?_, ?_⟩
  · rw [sq, hv]; exact mul_pw_le.mpr lo
  · rw [sq, hv]; exact mul_pw_lt.mpr hi
  · intro h; rw [sq, hv] at h; exact h0 (mul_pw_inj h)
  · intro h y y1 y2
    obtain ⟨z, z1, z2, rb⟩ := h1 (fun hc => h (by rw [sq, hv, hc]))
    exact RB.near hW h54 ⟨z1, z2⟩ ⟨y1, y2⟩ rb
theorem SqX.flags {v : Rat} {m f : Int} (h : SqX v m f) : 0 ≤ f ∧ f ≤ 16 ∧ 0 ≤ m ∧ m ≤ INF := by
  obtain ⟨W, E, w0, w1, lo, hi, ex, ne⟩ := h
  have rb : ∃ x, RB x m f := by
    by_cases c : ((W : Rat) * pw E) * ((W : Rat) * pw E) = v
    · exact ⟨_, ex c⟩
    · have h1 : (W : Rat) * pw E < ((W + 1 : Int) : Rat) * pw E := mul_pw_lt.mpr (by omega)
      refine ⟨((W : Rat) * pw E + ((W + 1 : Int) : Rat) * pw E) / 2, ne c _ ?_ ?_⟩ <;> grind
  obtain ⟨x, rb⟩ := rb
  have := rb.flags
  have := rb.range
  omega
def SqrtR (a r f : Int) : Prop :=
  if isNan a = true then r = QNAN ∧ f = (if signals a then 16 else 0)
  else if mag a = 0 ∨ a = INF then r = a ∧ f = 0
  else if neg a = true then r = QNAN ∧ f = 16
  else SqX (vm (mag a)) r f
theorem SqrtR.unique {a r f r' f' : Int} (h : SqrtR a r f) (h' : SqrtR a r' f') : r = r' ∧ f = f' := by
  unfold SqrtR at h h'
  by_cases c1 : isNan a = true
  · rw [if_pos c1] at h h'; omega
  · rw [if_neg c1] at h h'
    by_cases c2 : mag a = 0 ∨ a = INF
    · rw [if_pos c2] at h h'; omega
    · rw [if_neg c2] at h h'
      by_cases c3 : neg a = true
      · rw [if_pos c3] at h h'; omega
      · rw [if_neg c3] at h h'; exact h.unique h'
theorem SqrtR.flags {a r f : Int} (h : SqrtR a r f) : 0 ≤ f ∧ f ≤ 16 := by
  unfold SqrtR at h
  split at h
  · split at h <;> omega
  · split at h
    · omega
    · split at h
      · omega
      · have := h.flags; omega
theorem more_Sqrt_fin {a : Int} (ha : U a) (fa : fin a) (h0 : mag a ≠ 0) : ∃ r f, Ev (fun k => more_Sqrt.j0 k a false) (r, f) ∧ (neg a = true → r = QNAN ∧ f = 16) ∧ (neg a = false → SqX (vm (mag a)) r f) := by
  by_cases hn : neg a = true
  · refine ⟨QNAN, 16, Ev.succ ?_, fun _ => ⟨rfl, rfl⟩, fun h => by rw [hn] at h; cases h⟩
    simp only [more_Sqrt.j0]
    exact Ev.neg (by decide) (Ev.call (word_Neg_eq ha) (Ev.pos (by rw [neg_def]; exact hn) (Ev.now _)))
  · have hn' : neg a = false := by simpa using hn
    have pa := word_Parts_ev ha (show 0 < mag a by have := (mag_lt (a := a)).1; omega) fa
    obtain ⟨e1, e2⟩ := fin_expo fa
    have m0 := mant_pos (m := mag a) (by have := (mag_lt (a := a)).1; omega)
    have m1 := mant_lt (m := mag a)
    have hv : vm (mag a) = (mant (mag a) : Rat) * pw (expo (mag a)) := rfl
    have emag : a % 9223372036854775808 = mag a := rfl
    rw [emag] at pa
    generalize mant (mag a) = M at *
    generalize expo (mag a) = E at *
    have uM : U M := ⟨by omega, by omega⟩
    obtain ⟨b1, b2, b3⟩ := blen_pos m0
    have b4 : blen M ≤ 53 := blen_le (by decide) (by rw [show p2 53 = 9007199254740992 from by decide]; exact m1)
    have eW : wv 0 M = M := by unfold wv; omega
    have main : ∀ up, (up = 127 - blen M ∨ up = 126 - blen M) → (E - up) % 2 = 0 → ∃ r f, Ev (fun k => (wide_Wide_Left.f 0 M up).bind fun bt172 => ((wide_Wide_Sqrt.f k bt172.1 bt172.2).bind fun bt174 => ((round_Round.f k false 0 bt174.1 (wrap64 (Int.tdiv (wrap64 (E - up)) 2)) (!bt174.2)).bind fun bt176 => (some (bt176.1, bt176.2))))) (r, f) ∧ SqX (vm (mag a)) r f := by
      intro up hup hev
      have hb : M * p2 up < 170141183460469231731687303715884105728 := by
        have e : (170141183460469231731687303715884105728 : Int) = p2 127 := by decide
        have h1 : M * p2 up < p2 (blen M) * p2 up := Int.mul_lt_mul_of_pos_right b3 (p2_pos _)
        rw [← p2_add (by omega) (by omega)] at h1
        have h2 := p2_le (show blen M + up ≤ 127 by omega)
        omega
      have hlo : p2 125 ≤ M * p2 up := by
        have h1 : p2 (blen M - 1) * p2 up ≤ M * p2 up := Int.mul_le_mul_of_nonneg_right b2 (Int.le_of_lt (p2_pos _))
        rw [← p2_add (by omega) (by omega)] at h1
        have h2 := p2_le (show 125 ≤ blen M - 1 + up by omega)
        omega
      obtain ⟨h, l, el, u1, u2, ev⟩ := wide_Left_small (h := 0) (l := M) (n := up) U_0 uM (by omega) (by rw [eW]; omega)
      rw [eW] at ev
      obtain ⟨r, er, r0, r1, rlo, rhi⟩ := wide_Sqrt_ev u1 u2
      rw [ev] at er rlo rhi
      have r62 : 4611686018427387904 ≤ r := by
        refine Decidable.byContradiction fun hc => ?_
        have h1 : (r + 1) * (r + 1) ≤ 4611686018427387904 * 4611686018427387904 := Int.mul_le_mul (by omega) (by omega) (by omega) (by decide)
        have e : (4611686018427387904 : Int) * 4611686018427387904 = 21267647932558653966460912964485513216 := by decide
        have e2 : p2 125 = 42535295865117307932921825928971026432 := by decide
        omega
      have b54 : 54 ≤ blen r := by
        have h1 := blen_mono r62
        have h2 : blen 4611686018427387904 = 63 := blen_unique (by decide) (by decide) (by decide)
        omega
      have eD : wrap64 (Int.tdiv (wrap64 (E - up)) 2) = (E - up) / 2 := by
        rw [w64 (x := E - up) (by omega) (by omega)]
        have : Int.tdiv (E - up) 2 = (E - up) / 2 := Int.tdiv_eq_ediv_of_dvd (Int.dvd_of_emod_eq_zero hev)
        rw [this, w64 (by omega) (by omega)]
      have hvA : vm (mag a) = ((M * p2 up : Int) : Rat) * pw (2 * ((E - up) / 2)) := by
        rw [hv, show 2 * ((E - up) / 2) = E - up from by omega]
        have : pw E = (p2 up : Rat) * pw (E - up) := by rw [← pw_p2 (by omega), ← pw_add]; congr 1; omega
        rw [this]; push_cast; grind
      have hpos : 0 < r := by omega
      have eWr : wv 0 r = r := by unfold wv; omega
      have mid : ((r : Rat) * pw ((E - up) / 2) < ((2 * r + 1 : Int) : Rat) * pw ((E - up) / 2 - 1)) ∧ (((2 * r + 1 : Int) : Rat) * pw ((E - up) / 2 - 1) < ((r + 1 : Int) : Rat) * pw ((E - up) / 2)) := by
        have e := pw_pred ((E - up) / 2)
        have hp := pw_pos ((E - up) / 2 - 1)
        rw [← e]; push_cast
        constructor <;> grind
      by_cases c : r * r = M * p2 up
      · obtain ⟨m, f, ev2, rb⟩ := round_Round_ev false (h := 0) (l := r) (E := (E - up) / 2) U_0 ⟨r0, r1⟩ (by omega) (by omega) false (x := (r : Rat) * pw ((E - up) / 2)) (by rw [eWr]; exact hpos) (fun _ => by rw [eWr]) (fun h => by cases h)
        refine ⟨m, f, ?_, SqX.of hvA hpos b54 rlo rhi (fun _ => rb) (fun h => absurd c h)⟩
        rw [eD]
        refine Ev.call el (Ev.bind er ?_)
        dsimp only
        rw [decide_eq_true c]
        exact Ev.bind ev2 (Ev.now _)
      · obtain ⟨m, f, ev2, rb⟩ := round_Round_ev false (h := 0) (l := r) (E := (E - up) / 2) U_0 ⟨r0, r1⟩ (by omega) (by omega) true (x := ((2 * r + 1 : Int) : Rat) * pw ((E - up) / 2 - 1)) (by rw [eWr]; exact hpos) (fun h => by cases h) (fun _ => by rw [eWr]; exact ⟨mid, b54⟩)
        refine ⟨m, f, ?_, SqX.of hvA hpos b54 rlo rhi (fun h => absurd h c) (fun _ => ⟨_, mid.1, mid.2, rb⟩)⟩
        rw [eD]
        refine Ev.call el (Ev.bind er ?_)
        dsimp only
        rw [decide_eq_false c]
        exact Ev.bind ev2 (Ev.now _)
    have start : ∀ rf : Int × Int, Ev (fun k => if (Go.bits .and .i64 (wrap64 (E - (wrap64 (127 - blen M)))) 1) = 0 then ((wide_Wide_Left.f 0 M (wrap64 (127 - blen M))).bind fun bt172 => ((wide_Wide_Sqrt.f k bt172.1 bt172.2).bind fun bt174 => ((round_Round.f k false 0 bt174.1 (wrap64 (Int.tdiv (wrap64 (E - (wrap64 (127 - blen M)))) 2)) (!bt174.2)).bind fun bt176 => (some (bt176.1, bt176.2))))) else ((wide_Wide_Left.f 0 M (wrap64 ((wrap64 (127 - blen M)) - 1))).bind fun bt178 => ((wide_Wide_Sqrt.f k bt178.1 bt178.2).bind fun bt180 => ((round_Round.f k false 0 bt180.1 (wrap64 (Int.tdiv (wrap64 (E - (wrap64 ((wrap64 (127 - blen M)) - 1)))) 2)) (!bt180.2)).bind fun bt182 => (some (bt182.1, bt182.2)))))) rf →
        Ev (fun k => more_Sqrt.j0 k a false) rf := by
      intro rf h
      refine Ev.succ ?_
      simp only [more_Sqrt.j0]
      exact Ev.neg (by decide) (Ev.call (word_Neg_eq ha) (Ev.neg (by rw [neg_def]; exact hn) (Ev.bind pa (Ev.bind (bits_Len64_ev uM) h))))
    rw [w64 (x := 127 - blen M) (by omega) (by omega), w64 (x := 127 - blen M - 1) (by omega) (by omega)] at start
    have e1 : Go.bits .and .i64 (wrap64 (E - (127 - blen M))) 1 = (E - (127 - blen M)) % 2 := by
      rw [w64 (x := E - (127 - blen M)) (by omega) (by omega)]; exact i64_and 1 (by decide) _
    rw [e1] at start
    by_cases c : (E - (127 - blen M)) % 2 = 0
    · obtain ⟨r, f, ev, sq⟩ := main (127 - blen M) (.inl rfl) c
      exact ⟨r, f, start _ (Ev.pos c ev), fun h => absurd h hn, fun _ => sq⟩
    · obtain ⟨r, f, ev, sq⟩ := main (127 - blen M - 1) (.inr (by omega)) (by omega)
      exact ⟨r, f, start _ (Ev.neg c ev), fun h => absurd h hn, fun _ => sq⟩
/-- THE PROGRAM's ROOT. -/
theorem more_Sqrt_ev {a : Int} (ha : U a) : ∃ r f, Ev (fun k => more_Sqrt.f k a) (r, f) ∧ SqrtR a r f := by
  unfold SqrtR
  have hk := word_Kind_ev ha
  rw [kind_mag] at hk
  by_cases h : isNan a = true
  · refine ⟨QNAN, _, ?_, by rw [if_pos h]; exact ⟨rfl, rfl⟩⟩
    unfold more_Sqrt.f
    refine Ev.bind hk (Ev.pos (kind_nan.mpr h) (Ev.bind (word_Signals_ev ha) ?_))
    cases hs : signals a
    · exact Ev.neg (by decide) (Ev.now _)
    · exact Ev.pos rfl (Ev.now _)
  · have n5 : ¬ kindOf (mag a) = 5 := fun hh => h (kind_nan.mp hh)
    have start : ∀ r : Int × Int, Ev (fun k => more_Sqrt.j0 k a (decide (mag a = 0 ∨ a = INF))) r → Ev (fun k => more_Sqrt.f k a) r := by
      intro r hr
      unfold more_Sqrt.f
      refine Ev.bind hk (Ev.neg n5 (Ev.bind hk ?_))
      by_cases z : mag a = 0
      · rw [decide_eq_true (.inl z)] at hr
        exact Ev.pos (kind_zero.mpr z) hr
      · refine Ev.neg (fun hh => z (kind_zero.mp hh)) ?_
        have e : decide (mag a = 0 ∨ a = INF) = (a == 9218868437227405312) := by
          rw [Bool.eq_iff_iff]; simp [z, INF]
        rw [e] at hr
        exact hr
    by_cases c : mag a = 0 ∨ a = INF
    · refine ⟨a, 0, start _ (Ev.succ ?_), by rw [if_neg h, if_pos c]; exact ⟨rfl, rfl⟩⟩
      simp only [more_Sqrt.j0]
      exact Ev.pos (decide_eq_true c) (Ev.now _)
    · rw [decide_eq_false c] at start
      by_cases fa : fin a
      · obtain ⟨r, f, ev, h1, h2⟩ := more_Sqrt_fin ha fa (fun hh => c (.inl hh))
        refine ⟨r, f, start _ ev, ?_⟩
        rw [if_neg h, if_neg c]
        by_cases hn : neg a = true
        · rw [if_pos hn]; exact h1 hn
        · rw [if_neg hn]; exact h2 (by simpa using hn)
      · -- minus infinity
        have hn : neg a = true := by
          have hm : mag a = INF := by
            have h' : isNan a = false := by simpa using h
            unfold isNan at h'; unfold fin at fa; simp at h'; omega
          obtain ⟨a0, a1⟩ := ha
          unfold neg; unfold mag INF at hm
          refine decide_eq_true (Decidable.byContradiction fun hc => c (.inr ?_))
          unfold INF; omega
        refine ⟨QNAN, 16, start _ (Ev.succ ?_), by rw [if_neg h, if_neg c, if_pos hn]; exact ⟨rfl, rfl⟩⟩
        simp only [more_Sqrt.j0]
        exact Ev.neg (by decide) (Ev.call (word_Neg_eq ha) (Ev.pos (by rw [neg_def]; exact hn) (Ev.now _)))
/-- Between any bounds of the root lies a number that is rounded as the root is. -/
theorem SqX.between {v : Rat} {m f : Int} (h : SqX v m f) {lo hi : Rat} (l0 : 0 ≤ lo) (h0 : 0 ≤ hi) (hl : lo * lo < v) (hh : v < hi * hi) : ∃ y, lo < y ∧ y < hi ∧ RB y m f := by
  obtain ⟨W, E, w0, w1, wl, wh, ex, ne⟩ := h
  have q1 : 0 < (W : Rat) * pw E := by have := mul_pw_lt (a := 0) (b := W) (e := E); simpa using this.mpr w0
  have q3 : 0 < ((W + 1 : Int) : Rat) * pw E := by have := mul_pw_lt (a := 0) (b := W + 1) (e := E); simpa using this.mpr (by omega)
  generalize (W : Rat) * pw E = a at *
  generalize ((W + 1 : Int) : Rat) * pw E = b at *
  by_cases c : a * a = v
  · exact ⟨a, sq_lt l0 (by grind) (by grind), sq_lt (by grind) h0 (by grind), ex c⟩
  · have h1 : a < b := sq_lt (by grind) (by grind) (by grind)
    have h2 : a < hi := sq_lt (by grind) h0 (by grind)
    have h3 : lo < b := sq_lt l0 (by grind) (by grind)
    have h4 : lo < hi := sq_lt l0 h0 (by grind)
    have mid : ∀ {u w : Rat}, u < w → u < (u + w) / 2 ∧ (u + w) / 2 < w := by intro u w h; constructor <;> grind
    by_cases c1 : a ≤ lo <;> by_cases c2 : b ≤ hi
    · have := mid h3; exact ⟨(lo + b) / 2, by grind, by grind, ne c _ (by grind) (by grind)⟩
    · have := mid h4; exact ⟨(lo + hi) / 2, by grind, by grind, ne c _ (by grind) (by grind)⟩
    · have := mid h1; exact ⟨(a + b) / 2, by grind, by grind, ne c _ (by grind) (by grind)⟩
    · have := mid h2; exact ⟨(a + hi) / 2, by grind, by grind, ne c _ (by grind) (by grind)⟩

theorem SqX.le {v : Rat} {m f : Int} (h : SqX v m f) {hi : Rat} (h0 : 0 ≤ hi) (hh : v ≤ hi * hi) : ∃ y, y ≤ hi ∧ RB y m f := by
  obtain ⟨W, E, w0, w1, wl, wh, ex, ne⟩ := h
  have q1 : 0 < (W : Rat) * pw E := by have := mul_pw_lt (a := 0) (b := W) (e := E); simpa using this.mpr w0
  have q3 : (W : Rat) * pw E < ((W + 1 : Int) : Rat) * pw E := mul_pw_lt.mpr (by omega)
  generalize (W : Rat) * pw E = a at *
  generalize ((W + 1 : Int) : Rat) * pw E = b at *
  by_cases c : a * a = v
  · refine ⟨a, ?_, ex c⟩
    refine Decidable.byContradiction fun hc => ?_
    have h1 : hi < a := by grind
    have := Rat.mul_lt_mul_of_pos_left h1 q1
    have := Rat.mul_le_mul_of_nonneg_right (Rat.le_of_lt h1) h0
    grind
  · have h2 : a < hi := sq_lt (by grind) h0 (by grind)
    by_cases c2 : b ≤ hi
    · exact ⟨(a + b) / 2, by grind, ne c _ (by grind) (by grind)⟩
    · exact ⟨(a + hi) / 2, by grind, ne c _ (by grind) (by grind)⟩
theorem SqX.ge {v : Rat} {m f : Int} (h : SqX v m f) {lo : Rat} (h0 : 0 ≤ lo) (hh : lo * lo ≤ v) : ∃ y, lo ≤ y ∧ RB y m f := by
  obtain ⟨W, E, w0, w1, wl, wh, ex, ne⟩ := h
  have q1 : 0 < (W : Rat) * pw E := by have := mul_pw_lt (a := 0) (b := W) (e := E); simpa using this.mpr w0
  have q3 : (W : Rat) * pw E < ((W + 1 : Int) : Rat) * pw E := mul_pw_lt.mpr (by omega)
  generalize (W : Rat) * pw E = a at *
  generalize ((W + 1 : Int) : Rat) * pw E = b at *
  by_cases c : a * a = v
  · refine ⟨a, ?_, ex c⟩
    refine Decidable.byContradiction fun hc => ?_
    have h1 : a < lo := by grind
    have := Rat.mul_lt_mul_of_pos_right h1 q1
    have := Rat.mul_le_mul_of_nonneg_left (Rat.le_of_lt h1) h0
    grind
  · have h3 : lo < b := sq_lt h0 (by grind) (by grind)
    by_cases c1 : a ≤ lo
    · exact ⟨(lo + b) / 2, by grind, ne c _ (by grind) (by grind)⟩
    · exact ⟨(a + b) / 2, by grind, ne c _ (by grind) (by grind)⟩

/-- Half of the last place. -/
def ulp : Rat := pw (-53)
theorem ulp_pos : 0 < ulp := pw_pos _
theorem ulp_half (p : Rat) : 2 * (ulp * (((4503599627370496 : Int) : Rat) * p)) = p := by
  have h := pw_neg_mul 53
  have h2 : pw 53 = ((9007199254740992 : Int) : Rat) := by rw [pw_p2 (by decide)]; rfl
  rw [h2] at h
  have h3 : ((9007199254740992 : Int) : Rat) = 2 * ((4503599627370496 : Int) : Rat) := by decide +kernel
  rw [h3] at h
  unfold ulp
  have e : 2 * (pw (-53) * (((4503599627370496 : Int) : Rat) * p)) = (pw (-53) * (2 * ((4503599627370496 : Int) : Rat))) * p := by grind
  rw [e, h, Rat.one_mul]
theorem RB.err {x : Rat} {m f : Int} (h : RB x m f) (f3 : f ≠ 3) (f5 : f ≠ 5) : m < INF ∧ rabs (vm m - x) ≤ ulp * x ∧ rabs (vm m - x) ≤ ulp * vm m := by
  obtain ⟨q, n, hr, e1, e2⟩ := h.ex
  have hx := hr.pos
  have up := ulp_pos
  by_cases c : enc q n < INF
  · rw [if_pos c] at e1 e2
    subst e1
    rw [hr.val_enc]
    by_cases c2 : x = (n : Rat) * pw q
    · rw [← c2]
      have z : rabs (x - x) = 0 := by unfold rabs; grind
      have := Rat.mul_nonneg (Rat.le_of_lt up) (Rat.le_of_lt hx)
      rw [z]
      exact ⟨c, this, this⟩
    · rw [if_neg c2] at e2
      by_cases c3 : x < pw (-1022)
      · rw [if_pos c3] at e2; exact absurd e2 f3
      · have p := pw_pos q
        have lo : ((4503599627370496 : Int) : Rat) * pw q ≤ x := by
          rcases hr.lo with h1 | h1
          · subst h1
            have e : ((4503599627370496 : Int) : Rat) * pw (-1074) = pw (-1022) := by
              have := pw_addNat (-1074) 52
              rw [show (-1074 : Int) + (52 : Nat) = -1022 from by decide] at this
              rw [this]
              rfl
            rw [e]
            grind
          · exact h1
        have hn := hr.n_ge lo
        have hnp : ((4503599627370496 : Int) : Rat) * pw q ≤ (n : Rat) * pw q := Rat.mul_le_mul_of_nonneg_right (Rat.intCast_le_intCast.mpr hn) (Rat.le_of_lt p)
        have k1 := Rat.mul_le_mul_of_nonneg_left lo (Rat.le_of_lt up)
        have k2 := Rat.mul_le_mul_of_nonneg_left hnp (Rat.le_of_lt up)
        have k3 := ulp_half (pw q)
        have n1 := hr.near1
        have n2 := hr.near2
        push_cast at n1 n2
        have b : rabs ((n : Rat) * pw q - x) ≤ ulp * (((4503599627370496 : Int) : Rat) * pw q) := by
          generalize ulp * (((4503599627370496 : Int) : Rat) * pw q) = w at k3
          unfold rabs
          grind
        exact ⟨c, Rat.le_trans b k1, Rat.le_trans b k2⟩
  · rw [if_neg c] at e2
    exact absurd e2 f5
theorem rabs_zero : rabs 0 = 0 := by unfold rabs; grind
theorem rabs_add (x y : Rat) : rabs (x + y) ≤ rabs x + rabs y := by unfold rabs; grind
theorem Rd.err {x : Rat} {z : Bool} {r f : Int} (h : Rd x z r f) (f3 : f ≠ 3) (f5 : f ≠ 5) : fin r ∧ rabs (val r - x) ≤ ulp * rabs x ∧ rabs (val r - x) ≤ ulp * rabs (val r) := by
  by_cases hx : x = 0
  · obtain ⟨e, _⟩ := h.zero hx
    have m0 : mag r = 0 := by rw [e]; exact mag_signed (by decide) (by decide)
    have v : val r = 0 := val_zero_iff.mpr m0
    refine ⟨by unfold fin; rw [m0]; decide, ?_, ?_⟩
    · rw [v, hx]
      have : (0 : Rat) - 0 = 0 := by grind
      rw [this, rabs_zero]
      grind
    · rw [v, hx]
      have : (0 : Rat) - 0 = 0 := by grind
      rw [this, rabs_zero]
      grind
  · obtain ⟨m, h1, rfl⟩ := h.num hx
    obtain ⟨e1, e2, e3⟩ := h1.err f3 f5
    have hr := h1.range
    have hI : INF < 9223372036854775808 := by decide
    have vn := vm_nonneg (m := m) hr.1
    rw [val_signed hr.1 (by omega)]
    refine ⟨by unfold fin; rw [mag_signed hr.1 (by omega)]; exact e1, ?_, ?_⟩
    · by_cases c : x < 0
      · rw [if_pos (by simpa using c)]
        have a : rabs (-vm m - x) = rabs (vm m - rabs x) := by
          have : rabs x = -x := by unfold rabs; rw [if_pos c]
          rw [this, ← rabs_neg]
          congr 1
          grind
        rw [a]; exact e2
      · rw [if_neg (by simpa using c)]
        have : rabs x = x := by unfold rabs; rw [if_neg c]
        rw [this] at e2 ⊢
        exact e2
    · by_cases c : x < 0
      · rw [if_pos (by simpa using c)]
        have a : rabs (-vm m - x) = rabs (vm m - rabs x) := by
          have : rabs x = -x := by unfold rabs; rw [if_pos c]
          rw [this, ← rabs_neg]
          congr 1
          grind
        have b : rabs (-vm m) = vm m := by rw [rabs_neg]; unfold rabs; grind
        rw [a, b]; exact e3
      · rw [if_neg (by simpa using c)]
        have : rabs x = x := by unfold rabs; rw [if_neg c]
        have b : rabs (vm m) = vm m := by unfold rabs; grind
        rw [b]
        rw [this] at e3
        exact e3
/-- A sum of rational numbers, from one place on. -/
def rs (g : Nat → Rat) : Nat → Nat → Rat
  | _, 0 => 0
  | lo, m + 1 => g lo + rs g (lo + 1) m

/-- A little more than half of the last place. -/
def ulq : Rat := ulp * (1001 / 1000)
theorem ulq_pos : 0 < ulq := by decide +kernel
theorem RB.errN {x : Rat} {m f : Int} (h : RB x m f) (hx : pw (-1022) ≤ x) (hm : m < INF) : rabs (vm m - x) ≤ ulp * x := by
  have f3 : f ≠ 3 := by
    obtain ⟨q, n, hr, e1, e2⟩ := h.ex
    intro e
    rw [e] at e2
    by_cases c : enc q n < INF
    · rw [if_pos c] at e2
      by_cases c2 : x = (n : Rat) * pw q
      · rw [if_pos c2] at e2; exact absurd e2 (by decide)
      · rw [if_neg c2, if_neg (by grind)] at e2; exact absurd e2 (by decide)
    · rw [if_neg c] at e2; exact absurd e2 (by decide)
  have f5 : f ≠ 5 := by
    obtain ⟨q, n, hr, e1, e2⟩ := h.ex
    intro e
    rw [e] at e2
    by_cases c : enc q n < INF
    · rw [if_pos c] at e2
      by_cases c2 : x = (n : Rat) * pw q
      · rw [if_pos c2] at e2; exact absurd e2 (by decide)
      · rw [if_neg c2] at e2
        split at e2 <;> exact absurd e2 (by decide)
    · rw [if_neg c] at e1; omega
  exact (h.err f3 f5).2.1
/-- A root is near the exact one: its square lies between the number times 1 - e and times 1 + e, squared. -/
theorem SqX.near {v : Rat} {m f : Int} (h : SqX v m f) (h0 : pw (-1100) ≤ v) (h1 : v ≤ pw 1100) : m < INF ∧ 0 ≤ vm m ∧ v * ((1 - ulq) * (1 - ulq)) ≤ vm m * vm m ∧ vm m * vm m ≤ v * ((1 + ulq) * (1 + ulq)) := by
  have hm0 := (h.flags).2.2.1
  have vn := vm_nonneg (m := m) hm0
  have hv : 0 < v := by have := pw_pos (-1100); grind
  have q0 := ulq_pos
  have a1 : pw (-1022) ≤ pw (-600) := pw_mono (by decide)
  have sqlo : pw (-600) * pw (-600) < v := by
    rw [← pw_add]
    have := pw_lt (a := -600 + -600) (b := -1100) (by decide)
    have := pw_pos (-600 + -600)
    grind
  have sqhi : v < pw 600 * pw 600 := by
    rw [← pw_add]
    have := pw_lt (a := 1100) (b := 600 + 600) (by decide)
    have := pw_pos 1100
    grind
  have p0 := pw_pos (-600)
  have p1 := pw_pos 600
  obtain ⟨y, y1, y2, rb0⟩ := h.between (Rat.le_of_lt p0) (Rat.le_of_lt p1) sqlo sqhi
  have hm : m < INF := by
    refine Decidable.byContradiction fun hc => ?_
    have hv6 : vm (enc 549 4503599627370496) = ((4503599627370496 : Int) : Rat) * pw 549 := vm_enc (by decide) (by decide) (by decide) (.inr (by decide))
    have e52 : ((4503599627370496 : Int) : Rat) = pw 52 := by rw [pw_p2 (by decide)]; rfl
    rw [e52, ← pw_add] at hv6
    have h6 : y ≤ vm (enc 549 4503599627370496) := by
      rw [hv6]
      have := pw_lt (a := 600) (b := 52 + 549) (by decide)
      have := pw_pos 600
      grind
    have rl := rb0.mono (RB.self (m := enc 549 4503599627370496) (by decide) (by decide)) h6
    have : enc 549 4503599627370496 < INF := by decide
    omega
  -- any number between wide bounds that is rounded so is near
  have err : ∀ y, pw (-600) < y → RB y m f → rabs (vm m - y) ≤ ulp * y := fun y hy rb => rb.errN (by grind) hm
  have up : ulp < ulq := by decide +kernel
  have u1 : ulq ≤ 1 / 4 := by decide +kernel
  refine ⟨hm, vn, ?_, ?_⟩
  · refine Decidable.byContradiction fun hc => ?_
    have hlt : vm m * vm m < v * ((1 - ulq) * (1 - ulq)) := by grind
    -- lo is what the root would be at least
    have d0 : 0 < 1 - ulq := by grind
    have lo0 : 0 ≤ vm m / (1 - ulq) := by rw [Rat.div_def]; exact Rat.mul_nonneg vn (Rat.le_of_lt (Rat.inv_pos.mpr d0))
    have lom : vm m / (1 - ulq) * (1 - ulq) = vm m := Rat.div_mul_cancel (by grind)
    generalize vm m / (1 - ulq) = lo at lo0 lom
    have sq : lo * lo < v := by
      have e : vm m * vm m = lo * lo * ((1 - ulq) * (1 - ulq)) := by rw [← lom]; grind
      rw [e] at hlt
      have dd : 0 < (1 - ulq) * (1 - ulq) := Rat.mul_pos d0 d0
      refine Decidable.byContradiction fun hn => ?_
      have := Rat.mul_le_mul_of_nonneg_right (show v ≤ lo * lo by grind) (Rat.le_of_lt dd)
      grind
    obtain ⟨y, g1, g2, g3⟩ := h.between (lo := if lo < pw (-600) then pw (-600) else lo) (hi := pw 600) (by split <;> grind) (Rat.le_of_lt p1) (by split; exact sqlo; exact sq) sqhi
    have hy6 : pw (-600) < y := by split at g1 <;> grind
    have hylo : lo < y := by split at g1 <;> grind
    have e := err y hy6 g3
    have e2 : y - vm m ≤ ulp * y := by unfold rabs at e; split at e <;> grind
    have e3 : ulp * y < ulq * y := Rat.mul_lt_mul_of_pos_right up (by grind)
    have e4 : lo * (1 - ulq) < y * (1 - ulq) := Rat.mul_lt_mul_of_pos_right hylo d0
    grind
  · refine Decidable.byContradiction fun hc => ?_
    have hlt : v * ((1 + ulq) * (1 + ulq)) < vm m * vm m := by grind
    have d0 : 0 < 1 + ulq := by grind
    have lo0 : 0 ≤ vm m / (1 + ulq) := by rw [Rat.div_def]; exact Rat.mul_nonneg vn (Rat.le_of_lt (Rat.inv_pos.mpr d0))
    have lom : vm m / (1 + ulq) * (1 + ulq) = vm m := Rat.div_mul_cancel (by grind)
    generalize vm m / (1 + ulq) = hi at lo0 lom
    have sq : v < hi * hi := by
      have e : vm m * vm m = hi * hi * ((1 + ulq) * (1 + ulq)) := by rw [← lom]; grind
      rw [e] at hlt
      have dd : 0 < (1 + ulq) * (1 + ulq) := Rat.mul_pos d0 d0
      refine Decidable.byContradiction fun hn => ?_
      have := Rat.mul_le_mul_of_nonneg_right (show hi * hi ≤ v by grind) (Rat.le_of_lt dd)
      grind
    obtain ⟨y, g1, g2, g3⟩ := h.between (Rat.le_of_lt p0) lo0 sqlo sq
    have e := err y g1 g3
    have e2 : vm m - y ≤ ulp * y := by unfold rabs at e; split at e <;> grind
    have e3 : ulp * y < ulq * y := Rat.mul_lt_mul_of_pos_right up (by grind)
    have e4 : y * (1 + ulq) < hi * (1 + ulq) := Rat.mul_lt_mul_of_pos_right g2 d0
    grind
end Gim
