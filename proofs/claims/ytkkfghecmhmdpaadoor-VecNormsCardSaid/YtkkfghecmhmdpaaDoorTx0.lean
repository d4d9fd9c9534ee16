/- Texts of this claim, one behind the other: what the functions answer. -/
import Derived.Test.YtkkfghecmhmdpaaDoorRx0
import Derived.Laws.BitsLemmas
import Derived.Shelf.Spec.TrailingZeros
set_option linter.constructorNameAsVariable false
set_option linter.unusedSimpArgs false
set_option linter.unusedVariables false
set_option linter.unusedSectionVars false
namespace Gim
set_option linter.unusedVariables false

def pw (e : Int) : Rat := (2 : Rat) ^ e
theorem two_ne : (2 : Rat) ≠ 0 := by decide
theorem pw_pos (e : Int) : 0 < pw e := Rat.zpow_pos (by decide)
theorem pw_add (a b : Int) : pw (a + b) = pw a * pw b := Rat.zpow_add two_ne a b
theorem pw_zero : pw 0 = 1 := Rat.zpow_zero 2
theorem pw_one : pw 1 = 2 := Rat.zpow_one 2
theorem pw_succ (e : Int) : pw (e + 1) = 2 * pw e := by rw [pw_add, pw_one, Rat.mul_comm]
theorem pw_pred (e : Int) : 2 * pw (e - 1) = pw e := by
  have := pw_succ (e - 1)
  rw [Int.sub_add_cancel] at this
  exact this.symm
theorem pw_nat (n : Nat) : pw (n : Int) = ((2 ^ n : Int) : Rat) := by
  unfold pw
  rw [Rat.zpow_natCast]
  push_cast
  rfl
theorem pw_addNat (e : Int) (n : Nat) : pw (e + n) = ((2 ^ n : Int) : Rat) * pw e := by rw [pw_add, pw_nat, Rat.mul_comm]
theorem pw_le_add (e : Int) (n : Nat) : pw e ≤ pw (e + n) := by
  induction n with
  | zero => simp
  | succ n ih =>
    have h := pw_succ (e + n)
    have hp := pw_pos (e + n)
    have e1 : e + ((n + 1 : Nat) : Int) = e + n + 1 := by omega
    rw [e1, h]
    grind
theorem pw_mono {a b : Int} (h : a ≤ b) : pw a ≤ pw b := by
  obtain ⟨n, rfl⟩ : ∃ n : Nat, b = a + n := ⟨(b - a).toNat, by omega⟩
  exact pw_le_add a n
theorem pw_lt {a b : Int} (h : a < b) : 2 * pw a ≤ pw b := by
  rw [← pw_succ]
  exact pw_mono h
theorem pw_le_iff {a b : Int} : pw a ≤ pw b ↔ a ≤ b := by
  constructor
  · intro h
    by_cases hc : a ≤ b
    · exact hc
    · have := pw_lt (Int.not_le.mp hc)
      have := pw_pos b
      grind
  · exact pw_mono
theorem pw_neg_mul (e : Int) : pw (-e) * pw e = 1 := by rw [← pw_add, Int.add_left_neg, pw_zero]

/-- Whole numbers times one power of two: comparisons are those of the whole numbers. -/
theorem mul_pw_le {a b : Int} {e : Int} : (a : Rat) * pw e ≤ b * pw e ↔ a ≤ b := by
  have hp := pw_pos e
  constructor
  · intro h
    exact Rat.intCast_le_intCast.mp (Rat.le_of_mul_le_mul_right h hp)
  · intro h
    exact Rat.mul_le_mul_of_nonneg_right (Rat.intCast_le_intCast.mpr h) (Rat.le_of_lt hp)
theorem mul_pw_lt {a b : Int} {e : Int} : (a : Rat) * pw e < b * pw e ↔ a < b := by
  rw [← Rat.not_le, mul_pw_le, Int.not_le]
theorem mul_pw_inj {a b : Int} {e : Int} (h : (a : Rat) * pw e = b * pw e) : a = b := by
  have h1 := (mul_pw_le (e := e)).mp (by rw [h]; exact Rat.le_refl : (a : Rat) * pw e ≤ b * pw e)
  have h2 := (mul_pw_le (e := e)).mp (by rw [h]; exact Rat.le_refl : (b : Rat) * pw e ≤ a * pw e)
  omega
theorem mul_le_mul_right {a b c : Rat} (h : a ≤ b) (hc : 0 ≤ c) : a * c ≤ b * c := Rat.mul_le_mul_of_nonneg_right h hc

/-- n times 2^q is nearest to x (above 0), of two the even one. -/
structure Rnd (x : Rat) (q n : Int) : Prop where
  hq : -1074 ≤ q
  lo : q = -1074 ∨ (4503599627370496 : Int) * pw q ≤ x
  hi : x < (9007199254740992 : Int) * pw q
  pos : 0 < x
  near1 : 2 * x ≤ (2 * n + 1 : Int) * pw q
  near2 : (2 * n - 1 : Int) * pw q ≤ 2 * x
  tie1 : 2 * x = (2 * n + 1 : Int) * pw q → n % 2 = 0
  tie2 : 2 * x = (2 * n - 1 : Int) * pw q → n % 2 = 0

theorem Rnd.q_le {x y : Rat} {q n q' n' : Int} (h : Rnd x q n) (h' : Rnd y q' n') (hxy : x ≤ y) : q ≤ q' := by
  by_cases hc : q ≤ q'
  · exact hc
  · exfalso
    have hc := Int.not_le.mp hc
    have h1 : (4503599627370496 : Int) * pw q ≤ x := by
      rcases h.lo with h1 | h1
      · have := h'.hq; omega
      · exact h1
    have h2 := h'.hi
    have h3 := pw_lt hc
    push_cast at h1 h2
    grind
theorem Rnd.n_le {x : Rat} {q n : Int} (h : Rnd x q n) : n ≤ 9007199254740992 := by
  have h1 := h.near2
  have h2 := h.hi
  have h3 : (2 * n - 1 : Int) * pw q < (18014398509481984 : Int) * pw q := by push_cast at h1 h2 ⊢; grind
  have := mul_pw_lt.mp h3
  omega
theorem Rnd.n_ge {x : Rat} {q n : Int} (h : Rnd x q n) (hlo : (4503599627370496 : Int) * pw q ≤ x) : 4503599627370496 ≤ n := by
  have h1 := h.near1
  have h3 : (9007199254740992 : Int) * pw q ≤ (2 * n + 1 : Int) * pw q := by push_cast at h1 hlo ⊢; grind
  have := mul_pw_le.mp h3
  omega
theorem Rnd.n_nonneg {x : Rat} {q n : Int} (h : Rnd x q n) : 0 ≤ n := by
  have h1 := h.near1
  have h2 := h.pos
  have h3 : (0 : Int) * pw q < (2 * n + 1 : Int) * pw q := by push_cast at h1 ⊢; grind
  have := mul_pw_lt.mp h3
  omega
theorem Rnd.n_mono {x y : Rat} {q n n' : Int} (h : Rnd x q n) (h' : Rnd y q n') (hxy : x ≤ y) : n ≤ n' := by
  by_cases hc : n ≤ n'
  · exact hc
  · exfalso
    have hc := Int.not_le.mp hc
    have h1 := h.near2
    have h2 := h'.near1
    have h3 : (2 * n - 1 : Int) * pw q ≤ (2 * n' + 1 : Int) * pw q := by grind
    have h4 := mul_pw_le.mp h3
    have e : n = n' + 1 := by omega
    subst e
    have e1 : (2 * (n' + 1) - 1 : Int) = 2 * n' + 1 := by omega
    rw [e1] at h1
    have hx : 2 * x = (2 * n' + 1 : Int) * pw q := by grind
    have hy : 2 * y = (2 * n' + 1 : Int) * pw q := by grind
    have t1 := h'.tie1 hy
    have t2 := h.tie2 (by rw [e1]; exact hx)
    omega
theorem Rnd.unique {x : Rat} {q n q' n' : Int} (h : Rnd x q n) (h' : Rnd x q' n') : q = q' ∧ n = n' := by
  have h1 := h.q_le h' Rat.le_refl
  have h2 := h'.q_le h Rat.le_refl
  obtain rfl : q = q' := by omega
  have h3 := h.n_mono h' Rat.le_refl
  have h4 := h'.n_mono h Rat.le_refl
  omega

/-- The pattern of n times 2^q, where exponents have no upper bound. -/
def enc (q n : Int) : Int := (q + 1074) * 4503599627370496 + n

theorem Rnd.enc_mono {x y : Rat} {q n q' n' : Int} (h : Rnd x q n) (h' : Rnd y q' n') (hxy : x ≤ y) : enc q n ≤ enc q' n' := by
  have h1 := h.q_le h' hxy
  by_cases hc : q = q'
  · subst hc
    have := h.n_mono h' hxy
    unfold enc
    omega
  · have h2 := h.n_le
    have h3 : 4503599627370496 ≤ n' := by
      rcases h'.lo with h3 | h3
      · have := h.hq; omega
      · exact h'.n_ge h3
    unfold enc
    omega
theorem Rnd.enc_nonneg {x : Rat} {q n : Int} (h : Rnd x q n) : 0 ≤ enc q n := by
  have := h.hq; have := h.n_nonneg; unfold enc; omega

/-- A pattern without its sign: its whole number, its power, its value. -/
def mant (m : Int) : Int := if m < 4503599627370496 then m else m % 4503599627370496 + 4503599627370496
def expo (m : Int) : Int := if m < 4503599627370496 then -1074 else m / 4503599627370496 - 1075
def vm (m : Int) : Rat := (mant m : Rat) * pw (expo m)

theorem enc_mant (m : Int) (h : 0 ≤ m) : enc (expo m) (mant m) = m := by
  unfold enc expo mant
  split <;> omega
theorem mant_nonneg {m : Int} (h : 0 ≤ m) : 0 ≤ mant m := by unfold mant; split <;> omega
theorem mant_lt {m : Int} : mant m < 9007199254740992 := by unfold mant; split <;> omega
theorem expo_ge {m : Int} (h : 0 ≤ m) : -1074 ≤ expo m := by unfold expo; split <;> omega
theorem mant_ge {m : Int} (h : 0 ≤ m) : expo m = -1074 ∨ 4503599627370496 ≤ mant m := by unfold expo mant; split <;> omega
theorem vm_zero : vm 0 = 0 := by unfold vm mant; simp
theorem vm_nonneg {m : Int} (h : 0 ≤ m) : 0 ≤ vm m := by
  unfold vm
  have h1 : (0 : Rat) ≤ (mant m : Rat) := by exact_mod_cast mant_nonneg h
  exact Rat.mul_nonneg h1 (Rat.le_of_lt (pw_pos _))
theorem mant_pos {m : Int} (h : 0 < m) : 0 < mant m := by unfold mant; split <;> omega
theorem vm_pos {m : Int} (h : 0 < m) : 0 < vm m := by
  unfold vm
  have h1 : (0 : Rat) < (mant m : Rat) := by exact_mod_cast mant_pos h
  exact Rat.mul_pos h1 (pw_pos _)

/-- A number that is told already is nearest to itself. -/
theorem Rnd.self {q n : Int} (hq : -1074 ≤ q) (hn : 0 < n) (h1 : n < 9007199254740992) (h2 : q = -1074 ∨ 4503599627370496 ≤ n) : Rnd ((n : Rat) * pw q) q n := by
  have hp := pw_pos q
  have hn' : (0 : Rat) < (n : Rat) := by exact_mod_cast hn
  refine ⟨hq, ?_, mul_pw_lt.mpr h1, Rat.mul_pos hn' hp, ?_, ?_, ?_, ?_⟩
  · rcases h2 with h2 | h2
    · exact .inl h2
    · exact .inr (mul_pw_le.mpr h2)
  · push_cast; grind
  · push_cast; grind
  · intro h; push_cast at h; grind
  · intro h; push_cast at h; grind
theorem Rnd.of_vm {m : Int} (h : 0 < m) : Rnd (vm m) (expo m) (mant m) :=
  Rnd.self (expo_ge (Int.le_of_lt h)) (mant_pos h) mant_lt (mant_ge (Int.le_of_lt h))

theorem vm_mono {m m' : Int} (h0 : 0 ≤ m) (h : m ≤ m') : vm m ≤ vm m' := by
  by_cases hm : m = 0
  · subst hm; rw [vm_zero]; exact vm_nonneg (by omega)
  · by_cases hc : vm m ≤ vm m'
    · exact hc
    · have h1 := (Rnd.of_vm (m := m') (by omega)).enc_mono (Rnd.of_vm (m := m) (by omega)) (Rat.le_of_lt (Rat.not_le.mp hc))
      rw [enc_mant _ (by omega), enc_mant _ (by omega)] at h1
      obtain rfl : m = m' := by omega
      exact Rat.le_refl
/-- The value of what comes of rounding. -/
theorem vm_enc {q n : Int} (hq : -1074 ≤ q) (hn : 0 ≤ n) (h1 : n ≤ 9007199254740992) (h2 : q = -1074 ∨ 4503599627370496 ≤ n) : vm (enc q n) = (n : Rat) * pw q := by
  unfold vm
  by_cases ha : n < 4503599627370496
  · obtain rfl : q = -1074 := by omega
    have e : enc (-1074) n = n := by unfold enc; omega
    rw [e]
    unfold mant expo
    rw [if_pos ha, if_pos ha]
  · by_cases hb : n = 9007199254740992
    · subst hb
      have e1 : mant (enc q 9007199254740992) = 4503599627370496 := by unfold mant enc; rw [if_neg (by omega)]; omega
      have e2 : expo (enc q 9007199254740992) = q + 1 := by unfold expo enc; rw [if_neg (by omega)]; omega
      rw [e1, e2, pw_succ]
      push_cast
      grind
    · have e1 : mant (enc q n) = n := by unfold mant enc; rw [if_neg (by omega)]; omega
      have e2 : expo (enc q n) = q := by unfold expo enc; rw [if_neg (by omega)]; omega
      rw [e1, e2]
theorem Rnd.n_ge' {x : Rat} {q n : Int} (h : Rnd x q n) : q = -1074 ∨ 4503599627370496 ≤ n := by
  rcases h.lo with h1 | h1
  · exact .inl h1
  · exact .inr (h.n_ge h1)
theorem Rnd.val_enc {x : Rat} {q n : Int} (h : Rnd x q n) : vm (enc q n) = (n : Rat) * pw q :=
  vm_enc h.hq h.n_nonneg h.n_le h.n_ge'

/-- What rounding answers: a pattern without sign, and flags. -/
def INF : Int := 9218868437227405312
structure RB (x : Rat) (b f : Int) : Prop where
  ex : ∃ q n, Rnd x q n ∧ b = (if enc q n < INF then enc q n else INF) ∧
    f = if enc q n < INF then (if x = (n : Rat) * pw q then 0 else if x < pw (-1022) then 3 else 1) else 5

theorem RB.unique {x : Rat} {b f b' f' : Int} (h : RB x b f) (h' : RB x b' f') : b = b' ∧ f = f' := by
  obtain ⟨q, n, hr, rfl, rfl⟩ := h.ex
  obtain ⟨q', n', hr', rfl, rfl⟩ := h'.ex
  obtain ⟨rfl, rfl⟩ := hr.unique hr'
  exact ⟨rfl, rfl⟩
theorem RB.mono {x y : Rat} {b f b' f' : Int} (h : RB x b f) (h' : RB y b' f') (hxy : x ≤ y) : b ≤ b' := by
  obtain ⟨q, n, hr, rfl, rfl⟩ := h.ex
  obtain ⟨q', n', hr', rfl, rfl⟩ := h'.ex
  have := hr.enc_mono hr' hxy
  split <;> split <;> omega
theorem RB.range {x : Rat} {b f : Int} (h : RB x b f) : 0 ≤ b ∧ b ≤ INF := by
  obtain ⟨q, n, hr, rfl, rfl⟩ := h.ex
  have := hr.enc_nonneg
  unfold INF
  split <;> omega
/-- A number is rounded to itself. -/
theorem RB.self {m : Int} (h : 0 < m) (hm : m < INF) : RB (vm m) m 0 := by
  refine ⟨expo m, mant m, Rnd.of_vm h, ?_, ?_⟩
  · rw [enc_mant m (by omega), if_pos hm]
  · rw [enc_mant m (by omega), if_pos hm]; exact (if_pos rfl).symm
end Gim
namespace Gim
open Go Go.RowKit Go.Proofs.YtkkfghecmhmdpaaDoorW.PrintWords Go.Proofs.YtkkfghecmhmdpaaDoorW.PrintLast Go.Proofs.YtkkfghecmhmdpaaDoorW.PrintMore
set_option linter.unusedVariables false

theorem w64 {x : Int} (h1 : -9223372036854775808 ≤ x) (h2 : x ≤ 9223372036854775807) : wrap64 x = x := by unfold wrap64; omega
theorem wu64 {x : Int} (h1 : 0 ≤ x) (h2 : x < 18446744073709551616) : IntKind.u64.wrap x = x := by
  simp [IntKind.wrap, IntKind.bits, IntKind.signed]; omega
theorem wu64_mod (x : Int) : IntKind.u64.wrap x = x % 18446744073709551616 := by
  simp [IntKind.wrap, IntKind.bits, IntKind.signed]
theorem wraps_u64 (n : Int) (h₀ : 0 ≤ n) (h₁ : n < 2 ^ 64) : IntKind.u64.wrap n = n := wu64 h₀ (by simpa using h₁)
theorem wraps_i64 (n : Int) (h₀ : 0 ≤ n) (h₁ : n < 2 ^ 63) : IntKind.i64.wrap n = n := by
  rw [IntKind.wrap_i64]; have : n < 9223372036854775808 := by simpa using h₁
  omega
theorem u64_and (i : Nat) (hi : i ≤ 64) {x : Int} (h₀ : 0 ≤ x) (h₁ : x < 18446744073709551616) : bits .and .u64 x (2 ^ i - 1) = x % 2 ^ i :=
  bits_mask .u64 64 (by decide) wraps_u64 i hi x h₀ (by simpa using h₁)
theorem u64_and1 {x : Int} (h₀ : 0 ≤ x) (h₁ : x < 18446744073709551616) : bits .and .u64 x 1 = x % 2 := u64_and 1 (by decide) h₀ h₁
theorem u64_and2047 {x : Int} (h₀ : 0 ≤ x) (h₁ : x < 18446744073709551616) : bits .and .u64 x 2047 = x % 2048 := u64_and 11 (by decide) h₀ h₁
theorem u64_and52 {x : Int} (h₀ : 0 ≤ x) (h₁ : x < 18446744073709551616) : bits .and .u64 x 4503599627370495 = x % 4503599627370496 := u64_and 52 (by decide) h₀ h₁
theorem u64_and32 {x : Int} (h₀ : 0 ≤ x) (h₁ : x < 18446744073709551616) : bits .and .u64 x 4294967295 = x % 4294967296 := u64_and 32 (by decide) h₀ h₁
theorem u64_or (i : Nat) {x y : Int} (hx₀ : 0 ≤ x) (hx : x % 2 ^ i = 0) (hx₁ : x < 18446744073709551616) (hy₀ : 0 ≤ y) (hy : y < 2 ^ i) (hy₁ : y < 18446744073709551616) : bits .or .u64 x y = x + y :=
  bits_join .u64 64 (by decide) wraps_u64 i x y hx₀ hx (by simpa using hx₁) hy₀ hy (by simpa using hy₁)
theorem bits_or_comm (k : IntKind) (x y : Int) : bits .or k x y = bits .or k y x := by
  unfold bits
  simp [BitVec.or_comm]
theorem u64_or' (i : Nat) {x y : Int} (hx₀ : 0 ≤ x) (hx : x % 2 ^ i = 0) (hx₁ : x < 18446744073709551616) (hy₀ : 0 ≤ y) (hy : y < 2 ^ i) (hy₁ : y < 18446744073709551616) : bits .or .u64 y x = x + y := by
  rw [bits_or_comm]; exact u64_or i hx₀ hx hx₁ hy₀ hy hy₁
theorem u64_or_zero {x y : Int} (hx₀ : 0 ≤ x) (hx₁ : x < 18446744073709551616) (hy₀ : 0 ≤ y) (hy₁ : y < 18446744073709551616) : (bits .or .u64 x y == 0) = (x == 0 && y == 0) := by
  obtain ⟨a, rfl⟩ := Int.eq_ofNat_of_zero_le hx₀
  obtain ⟨b, rfl⟩ := Int.eq_ofNat_of_zero_le hy₀
  rw [(bits_nat .u64 64 (by decide) wraps_u64 a b (by omega) (by omega)).2]
  rw [Bool.eq_iff_iff]
  simp [Nat.or_eq_zero_iff]
theorem u64_top {x : Int} (h₀ : 0 ≤ x) (h₁ : x < 18446744073709551616) : bits .andNot .u64 x 9223372036854775808 = x % 9223372036854775808 := by
  have e : bits .andNot .u64 x 9223372036854775808 = bits .and .u64 x (2 ^ 63 - 1) := by
    unfold bits
    simp only []
    congr 3
  rw [e, u64_and 63 (by decide) h₀ h₁]
  rfl
theorem i64_and (i : Nat) (hi : i ≤ 62) (x : Int) : bits .and .i64 x (2 ^ i - 1) = x % 2 ^ i := by
  have hpos : 0 < 2 ^ i := Nat.two_pow_pos i
  have hle : 2 ^ i ≤ 2 ^ 62 := Nat.pow_le_pow_right (by decide) hi
  have hc : ((2 : Int) ^ i - 1) = ((2 ^ i - 1 : Nat) : Int) := by
    rw [Int.natCast_sub hpos]; simp
  have e : bits .and .i64 x (2 ^ i - 1) = IntKind.i64.wrap (((x % 18446744073709551616).toNat % 2 ^ i : Nat) : Int) := by
    rw [hc]
    have e0 : bits .and .i64 x ((2 ^ i - 1 : Nat) : Int) = IntKind.i64.wrap ((BitVec.ofInt 64 x &&& BitVec.ofInt 64 ((2 ^ i - 1 : Nat) : Int)).toNat : Int) := rfl
    rw [e0, BitVec.toNat_and, BitVec.ofInt_natCast, BitVec.toNat_ofNat, BitVec.toNat_ofInt,
      Nat.mod_eq_of_lt (a := 2 ^ i - 1) (by have : 2 ^ 62 < 2 ^ 64 := by decide
                                            omega), Nat.and_two_pow_sub_one_eq_mod]
    rfl
  have hb : ((x % 18446744073709551616).toNat % 2 ^ i : Nat) < 2 ^ 62 := Nat.lt_of_lt_of_le (Nat.mod_lt _ hpos) hle
  have hb' : ((x % 18446744073709551616).toNat % 2 ^ i : Nat) < 4611686018427387904 := hb
  rw [e, wraps_i64 _ (by omega) (by omega)]
  have hm : 0 ≤ x % 18446744073709551616 := by omega
  have hp : ((2 ^ i : Nat) : Int) = 2 ^ i := by simp
  rw [Int.natCast_emod, Int.toNat_of_nonneg hm, hp]
  refine Int.emod_emod_of_dvd x ⟨2 ^ (64 - i), ?_⟩
  rw [← Int.pow_add, show i + (64 - i) = 64 from by omega]
  rfl

/-- From some number of rounds on. -/
theorem Ev.succ {α : Type} {g : Nat → Option α} {r : α} (h : Ev (fun k => g (k + 1)) r) : Ev g r := by
  obtain ⟨K, hK⟩ := h
  exact ⟨K + 1, fun k hk => by obtain ⟨j, rfl⟩ : ∃ j, k = j + 1 := ⟨k - 1, by omega⟩; exact hK j (by omega)⟩
theorem Ev.pos {α : Type} {c : Prop} [Decidable c] {a b : Nat → Option α} {r : α} (h : c) (k : Ev a r) : Ev (fun n => if c then a n else b n) r := by
  obtain ⟨K, hK⟩ := k
  exact ⟨K, fun n hn => by show (if c then a n else b n) = some r; rw [if_pos h]; exact hK n hn⟩
theorem Ev.neg {α : Type} {c : Prop} [Decidable c] {a b : Nat → Option α} {r : α} (h : ¬ c) (k : Ev b r) : Ev (fun n => if c then a n else b n) r := by
  obtain ⟨K, hK⟩ := k
  exact ⟨K, fun n hn => by show (if c then a n else b n) = some r; rw [if_neg h]; exact hK n hn⟩
theorem Ev.call {α β : Type} {g : Option α} {f : Nat → α → Option β} {a : α} {r : β} (h : g = some a) (k : Ev (fun n => f n a) r) : Ev (fun n => g.bind (f n)) r := by
  obtain ⟨K, hK⟩ := k
  exact ⟨K, fun n hn => by show g.bind (f n) = some r; rw [h]; exact hK n hn⟩
theorem Ev.same {α : Type} {g f : Nat → Option α} {r : α} (h : ∀ k, g k = f k) (k : Ev f r) : Ev g r := by
  obtain ⟨K, hK⟩ := k
  exact ⟨K, fun n hn => by rw [h n]; exact hK n hn⟩
theorem Ev.det {α : Type} {g : Nat → Option α} {r q : α} (h : Ev g r) (k : Ev g q) : r = q := by
  obtain ⟨K, hK⟩ := h
  obtain ⟨L, hL⟩ := k
  have h1 := hK (K + L) (by omega)
  rw [hL (K + L) (by omega)] at h1
  exact (Option.some.inj h1).symm
theorem mul_bound {a b m n : Int} (ha : 0 ≤ a) (hb : 0 ≤ b) (hm : a ≤ m) (hn : b ≤ n) : 0 ≤ a * b ∧ a * b ≤ m * n := by
  refine ⟨Int.mul_nonneg ha hb, ?_⟩
  exact Int.mul_le_mul hm hn hb (by omega)
def sgn (x : Int) : Int := if x < 0 then -1 else if x = 0 then 0 else 1

end Gim
namespace Gim
open Go Go.RowKit Go.Proofs.YtkkfghecmhmdpaaDoorW.PrintWords Go.Proofs.YtkkfghecmhmdpaaDoorW.PrintLast Go.Proofs.YtkkfghecmhmdpaaDoorW.PrintMore Go.Proofs.YtkkfghecmhmdpaaDoor.F
set_option linter.unusedVariables false

/-- A word of 64 bits. -/
def U (a : Int) : Prop := 0 ≤ a ∧ a < 18446744073709551616
/-- What a pattern without its sign stands for. -/
def kindOf (m : Int) : Int := if m = 0 then 1 else if m < 4503599627370496 then 2 else if m < 9218868437227405312 then 3 else if m = 9218868437227405312 then 4 else 5
theorem word_Neg_eq {a : Int} (h : U a) : word_Neg.f a = some (decide (9223372036854775808 ≤ a)) := by
  obtain ⟨h0, h1⟩ := h
  unfold word_Neg.f
  congr 1
  rw [Bool.eq_iff_iff]
  simp
  omega
theorem word_Abs_eq {a : Int} (h : U a) : word_Abs.f a = some (a % 9223372036854775808) := by
  unfold word_Abs.f; rw [u64_top h.1 h.2]
theorem word_Exp_eq {a : Int} (h : U a) : word_Exp.f a = some (a / 4503599627370496 % 2048) := by
  obtain ⟨h0, h1⟩ := h
  unfold word_Exp.f
  rw [u64_and2047 (by omega) (by omega), w64 (by omega) (by omega)]
theorem word_Frac_eq {a : Int} (h : U a) : word_Frac.f a = some (a % 4503599627370496) := by
  unfold word_Frac.f; rw [u64_and52 h.1 h.2]
theorem kind1 {m : Int} : kindOf m = 1 ↔ m = 0 := by unfold kindOf; grind
theorem kind2 {m : Int} (h : 0 ≤ m) : kindOf m = 2 ↔ 0 < m ∧ m < 4503599627370496 := by unfold kindOf; grind
theorem kind3 {m : Int} (h : 0 ≤ m) : kindOf m = 3 ↔ 4503599627370496 ≤ m ∧ m < 9218868437227405312 := by unfold kindOf; grind
theorem kind4 {m : Int} (h : 0 ≤ m) : kindOf m = 4 ↔ m = 9218868437227405312 := by unfold kindOf; grind
theorem kind5 {m : Int} (h : 0 ≤ m) : kindOf m = 5 ↔ 9218868437227405312 < m := by unfold kindOf; grind
theorem mag_nonneg (a : Int) : 0 ≤ a % 9223372036854775808 := by omega
theorem word_Kind_ev {a : Int} (h : U a) : Ev (fun k => word_Kind.f k a) (kindOf (a % 9223372036854775808)) := by
  have hh := h
  obtain ⟨h0, h1⟩ := h
  unfold word_Kind.f
  refine Ev.call (word_Exp_eq hh) (Ev.call (word_Frac_eq hh) ?_)
  have hm := mag_nonneg a
  by_cases hE : a / 4503599627370496 % 2048 = 0
  · refine Ev.pos hE (Ev.succ ?_)
    simp only [word_Kind.j0]
    by_cases hF : a % 4503599627370496 = 0
    · rw [kind1.mpr (by omega)]
      exact Ev.pos (by simpa using hF) (Ev.now _)
    · rw [(kind2 hm).mpr (by omega)]
      exact Ev.neg (by simpa using hF) (Ev.pos hE (Ev.now _))
  · refine Ev.neg hE (Ev.succ ?_)
    simp only [word_Kind.j0]
    refine Ev.neg (by simp) (Ev.neg hE ?_)
    by_cases hN : a / 4503599627370496 % 2048 < 2047
    · rw [(kind3 hm).mpr (by omega)]
      exact Ev.pos hN (Ev.now _)
    · refine Ev.neg hN ?_
      by_cases hF : a % 4503599627370496 = 0
      · rw [(kind4 hm).mpr (by omega)]
        exact Ev.pos hF (Ev.now _)
      · rw [(kind5 hm).mpr (by omega)]
        exact Ev.neg hF (Ev.now _)
/-- Is it no number that signals? -/
def signals (a : Int) : Bool := decide (9218868437227405312 < a % 9223372036854775808) && decide (a / 2251799813685248 % 2 = 0)
theorem word_Signals_ev {a : Int} (h : U a) : Ev (fun k => word_Signals.f k a) (signals a) := by
  have hh := h
  obtain ⟨h0, h1⟩ := h
  unfold word_Signals.f
  refine Ev.bind (word_Kind_ev hh) ?_
  have hm := mag_nonneg a
  by_cases hk : 9218868437227405312 < a % 9223372036854775808
  · refine Ev.pos ((kind5 hm).mpr hk) ?_
    rw [u64_and1 (by omega) (by omega)]
    have e : signals a = (a / 2251799813685248 % 2 == 0) := by
      unfold signals
      rw [decide_eq_true hk, Bool.true_and, Bool.eq_iff_iff]
      simp
    rw [e]
    exact Ev.now _
  · refine Ev.neg (fun hc => hk ((kind5 hm).mp hc)) ?_
    have e : signals a = false := by unfold signals; rw [decide_eq_false hk, Bool.false_and]
    rw [e]
    exact Ev.now _
/-- A number that isn't zero. -/
theorem word_Parts_ev {a : Int} (h : U a) (h1 : 0 < a % 9223372036854775808) (h2 : a % 9223372036854775808 < 9218868437227405312) :
    Ev (fun k => word_Parts.f k a) (mant (a % 9223372036854775808), expo (a % 9223372036854775808)) := by
  have hh := h
  obtain ⟨h0, h3⟩ := h
  unfold word_Parts.f
  refine Ev.bind (word_Kind_ev hh) ?_
  have hm := mag_nonneg a
  by_cases hs : a % 9223372036854775808 < 4503599627370496
  · refine Ev.pos ((kind2 hm).mpr ⟨h1, hs⟩) (Ev.call (word_Frac_eq hh) ?_)
    have e1 : mant (a % 9223372036854775808) = a % 4503599627370496 := by unfold mant; rw [if_pos hs]; omega
    have e2 : expo (a % 9223372036854775808) = -1074 := by unfold expo; rw [if_pos hs]
    rw [e1, e2]
    exact Ev.now _
  · have k3 := (kind3 hm).mpr ⟨by omega, h2⟩
    refine Ev.neg (by rw [k3]; decide) (Ev.pos k3 (Ev.call (word_Frac_eq hh) (Ev.call (word_Exp_eq hh) ?_)))
    have e1 : bits .or .u64 (a % 4503599627370496) 4503599627370496 = 4503599627370496 + a % 4503599627370496 := u64_or' 52 (by omega) (by decide) (by omega) (by omega) (by simp; omega) (by omega)
    rw [e1, w64 (by omega) (by omega)]
    have e2 : mant (a % 9223372036854775808) = 4503599627370496 + a % 4503599627370496 := by unfold mant; rw [if_neg hs]; omega
    have e3 : expo (a % 9223372036854775808) = a / 4503599627370496 % 2048 - 1075 := by unfold expo; rw [if_neg hs]; omega
    rw [e2, e3]
    exact Ev.now _
theorem word_Parts_none {a : Int} (h : U a) (h1 : a % 9223372036854775808 = 0 ∨ 9218868437227405312 ≤ a % 9223372036854775808) : Ev (fun k => word_Parts.f k a) (0, 0) := by
  have hh := h
  unfold word_Parts.f
  refine Ev.bind (word_Kind_ev hh) ?_
  have hm := mag_nonneg a
  exact Ev.neg (fun hc => by have := (kind2 hm).mp hc; omega) (Ev.neg (fun hc => by have := (kind3 hm).mp hc; omega) (Ev.now _))

def signed (neg : Bool) (m : Int) : Int := if neg then m + 9223372036854775808 else m
theorem word_Make_eq (neg : Bool) {e f : Int} (he : 0 ≤ e) (he' : e < 2048) (hf : U f) : word_Make.f neg e f = some (signed neg (e * 4503599627370496 + f % 4503599627370496)) := by
  obtain ⟨h0, h1⟩ := hf
  unfold word_Make.f signed
  have p52 : (2 : Int) ^ 52 = 4503599627370496 := by decide
  have p63 : (2 : Int) ^ 63 = 9223372036854775808 := by decide
  have e1 : IntKind.u64.wrap e = e := wu64 he (by omega)
  rw [e1, u64_and2047 he (by omega), u64_and52 h0 h1, show e % 2048 = e from by omega, wu64 (by omega) (by omega)]
  have e2 : bits .or .u64 (e * 4503599627370496) (f % 4503599627370496) = e * 4503599627370496 + f % 4503599627370496 :=
    u64_or 52 (by omega) (by rw [p52]; omega) (by omega) (by omega) (by rw [p52]; omega) (by omega)
  rw [e2]
  cases neg
  · simp
  · simp only [if_true]
    rw [u64_or' 63 (by omega) (by rw [p63]; omega) (by omega) (by omega) (by rw [p63]; omega) (by omega), Int.add_comm]

/-- Two words as one number. -/
def wv (h l : Int) : Int := h * 18446744073709551616 + l
/-- A power of two, as a whole number. -/
def p2 (n : Int) : Int := 2 ^ n.toNat
theorem p2_pos (n : Int) : 0 < p2 n := Int.pow_pos (by decide)
theorem p2_add {a b : Int} (ha : 0 ≤ a) (hb : 0 ≤ b) : p2 (a + b) = p2 a * p2 b := by
  unfold p2
  rw [Int.toNat_add ha hb, Int.pow_add]
theorem p2_0 : p2 0 = 1 := rfl
theorem p2_1 : p2 1 = 2 := rfl
theorem p2_64 : p2 64 = 18446744073709551616 := by decide
theorem p2_128 : p2 128 = 340282366920938463463374607431768211456 := by decide
theorem p2_le {a b : Int} (h : a ≤ b) : p2 a ≤ p2 b := by
  unfold p2
  have : a.toNat ≤ b.toNat := by omega
  exact_mod_cast Nat.pow_le_pow_right (by decide : 0 < 2) this
theorem p2_succ {a : Int} (h : 0 ≤ a) : p2 (a + 1) = 2 * p2 a := by rw [p2_add h (by decide), p2_1, Int.mul_comm]
theorem p2_neg {a : Int} (h : a ≤ 0) : p2 a = 1 := by unfold p2; rw [show a.toNat = 0 from by omega]; rfl
theorem pw_p2 {a : Int} (h : 0 ≤ a) : pw a = (p2 a : Rat) := by
  obtain ⟨n, rfl⟩ := Int.eq_ofNat_of_zero_le h
  rw [pw_nat]
  rfl

theorem wv_range {h l : Int} (hh : U h) (hl : U l) : 0 ≤ wv h l ∧ wv h l < 340282366920938463463374607431768211456 := by
  obtain ⟨a, b⟩ := hh; obtain ⟨c, d⟩ := hl; unfold wv; omega
theorem wv_inj {h l h' l' : Int} (hh : U h) (hl : U l) (hh' : U h') (hl' : U l') (e : wv h l = wv h' l') : h = h' ∧ l = l' := by
  obtain ⟨a, b⟩ := hh; obtain ⟨c, d⟩ := hl; obtain ⟨a', b'⟩ := hh'; obtain ⟨c', d'⟩ := hl'; unfold wv at e; omega

theorem shl_u64 {x n : Int} (hn : 0 ≤ n) (hn' : n ≤ 64) : shl .u64 x n = x * p2 n % 18446744073709551616 := by
  unfold shl p2
  rw [wu64_mod, show min n.toNat (IntKind.bits .u64) = n.toNat from Nat.min_eq_left (by simp [IntKind.bits]; omega)]
theorem shr_u64 {x n : Int} (hn : 0 ≤ n) (hn' : n ≤ 64) : shr .u64 x n = x / p2 n := by
  unfold shr p2
  rw [show min n.toNat (IntKind.bits .u64) = n.toNat from Nat.min_eq_left (by simp [IntKind.bits]; omega)]

theorem wide_Zero_eq {h l : Int} (hh : U h) (hl : U l) : wide_Wide_Zero.f h l = some (decide (wv h l = 0)) := by
  unfold wide_Wide_Zero.f
  rw [u64_or_zero hh.1 hh.2 hl.1 hl.2]
  congr 1
  rw [Bool.eq_iff_iff]
  obtain ⟨a, b⟩ := hh; obtain ⟨c, d⟩ := hl
  unfold wv
  simp
  omega

/-- What lies in two words below and above a cut at n bits. -/
theorem part_lt {x P Q : Int} (hx : U x) (hP : 0 < P) (hQ : 0 < Q) (h : P * Q = 18446744073709551616) : 0 ≤ x / Q ∧ x / Q < P ∧ 0 ≤ x % Q ∧ x % Q < Q ∧ x = x / Q * Q + x % Q := by
  obtain ⟨h0, h1⟩ := hx
  have e := Int.mul_ediv_add_emod x Q
  have r0 := Int.emod_nonneg x (Int.ne_of_gt hQ)
  have r1 := Int.emod_lt_of_pos x hQ
  refine ⟨Int.ediv_nonneg h0 (Int.le_of_lt hQ), ?_, r0, r1, by rw [Int.mul_comm]; exact e.symm⟩
  exact Int.ediv_lt_of_lt_mul hQ (by rw [h]; exact h1)

theorem mul_mod_cut {x P Q : Int} (hx : U x) (hP : 0 < P) (hQ : 0 < Q) (h : P * Q = 18446744073709551616) : x * P % 18446744073709551616 = x % Q * P ∧ 0 ≤ x % Q * P ∧ x % Q * P ≤ 18446744073709551616 - P := by
  obtain ⟨a0, a1, b0, b1, e⟩ := part_lt hx hP hQ h
  have h2 : 0 ≤ x % Q * P := Int.mul_nonneg b0 (Int.le_of_lt hP)
  have h3 : x % Q * P ≤ 18446744073709551616 - P := by
    have : x % Q * P ≤ (Q - 1) * P := Int.mul_le_mul_of_nonneg_right (by omega) (Int.le_of_lt hP)
    have e2 : (Q - 1) * P = 18446744073709551616 - P := by rw [← h]; grind
    omega
  refine ⟨?_, h2, h3⟩
  have e3 : x * P = x / Q * 18446744073709551616 + x % Q * P := by
    rw [← h]; generalize x / Q = A at *; generalize x % Q = B at *; subst e; grind
  rw [e3]
  omega

theorem wide_Left_eq {h l n : Int} (hh : U h) (hl : U l) (hn : n ≤ 4611686018427387904) : ∃ h' l', wide_Wide_Left.f h l n = some (h', l') ∧ U h' ∧ U l' ∧ wv h' l' = wv h l * p2 n % 340282366920938463463374607431768211456 := by
  have hv := wv_range hh hl
  unfold wide_Wide_Left.f
  by_cases h1 : n ≤ 0
  · rw [if_pos h1]
    refine ⟨h, l, rfl, hh, hl, ?_⟩
    rw [p2_neg h1]
    omega
  · rw [if_neg h1]
    by_cases h2 : n ≥ 128
    · rw [if_pos h2]
      refine ⟨0, 0, rfl, ⟨by decide, by decide⟩, ⟨by decide, by decide⟩, ?_⟩
      have e : p2 n = p2 128 * p2 (n - 128) := by rw [← p2_add (by omega) (by omega)]; congr 1; omega
      rw [e, p2_128]
      have : wv h l * (340282366920938463463374607431768211456 * p2 (n - 128)) = 340282366920938463463374607431768211456 * (wv h l * p2 (n - 128)) := by grind
      rw [this, Int.mul_emod_right]
      rfl
    · rw [if_neg h2]
      by_cases h3 : n ≥ 64
      · rw [if_pos h3, w64 (by omega) (by omega), if_pos (by omega), shl_u64 (by omega) (by omega)]
        refine ⟨_, _, rfl, ⟨by omega, by omega⟩, ⟨by decide, by decide⟩, ?_⟩
        have e : p2 n = 18446744073709551616 * p2 (n - 64) := by rw [← p2_64, ← p2_add (by omega) (by omega)]; congr 1; omega
        rw [e]
        have e2 : wv h l * (18446744073709551616 * p2 (n - 64)) = 340282366920938463463374607431768211456 * (h * p2 (n - 64)) + (l * p2 (n - 64)) * 18446744073709551616 := by unfold wv; grind
        rw [e2]
        generalize h * p2 (n - 64) = X
        generalize l * p2 (n - 64) = Y
        unfold wv
        omega
      · rw [if_neg h3, if_pos (by omega), w64 (by omega) (by omega), if_pos (by omega), shl_u64 (by omega) (by omega), shl_u64 (by omega) (by omega), shr_u64 (by omega) (by omega)]
        have hP := p2_pos n
        have hQ := p2_pos (64 - n)
        have hPQ : p2 n * p2 (64 - n) = 18446744073709551616 := by rw [← p2_64, ← p2_add (by omega) (by omega)]; congr 1; omega
        obtain ⟨c0, c1, d0, d1, el⟩ := part_lt hl hP hQ hPQ
        obtain ⟨a0, a1, b0, b1, eh⟩ := part_lt hh hP hQ hPQ
        obtain ⟨mh, mh0, mh1⟩ := mul_mod_cut hh hP hQ hPQ
        obtain ⟨ml, ml0, ml1⟩ := mul_mod_cut hl hP hQ hPQ
        rw [mh, ml]
        have hmod : h % p2 (64 - n) * p2 n % 2 ^ n.toNat = 0 := by
          show h % p2 (64 - n) * p2 n % p2 n = 0
          exact Int.mul_emod_left _ _
        rw [u64_or n.toNat mh0 hmod (by omega) c0 c1 (by omega)]
        refine ⟨_, _, rfl, ⟨by omega, by omega⟩, ⟨by omega, by omega⟩, ?_⟩
        have e : wv h l * p2 n = h / p2 (64 - n) * 340282366920938463463374607431768211456 + wv (h % p2 (64 - n) * p2 n + l / p2 (64 - n)) (l % p2 (64 - n) * p2 n) := by
          unfold wv
          generalize h / p2 (64 - n) = A at *
          generalize h % p2 (64 - n) = B at *
          generalize l / p2 (64 - n) = C at *
          generalize l % p2 (64 - n) = D at *
          generalize p2 n = P at *
          generalize p2 (64 - n) = Q at *
          subst eh el
          have : (340282366920938463463374607431768211456 : Int) = P * Q * (P * Q) := by rw [hPQ]; decide
          rw [this, ← hPQ]
          grind
        rw [e]
        have hr := wv_range (h := h % p2 (64 - n) * p2 n + l / p2 (64 - n)) (l := l % p2 (64 - n) * p2 n) ⟨by omega, by omega⟩ ⟨by omega, by omega⟩
        omega

theorem cut_div {v P : Int} (hP : 0 < P) : v / P * P = v - v % P := by have := Int.mul_ediv_add_emod v P; rw [Int.mul_comm] at this; omega
/-- Times 2^n, less than 2^128. -/
theorem wide_Left_small {h l n : Int} (hh : U h) (hl : U l) (hn : n ≤ 4611686018427387904) (hs : wv h l * p2 n < 340282366920938463463374607431768211456) : ∃ h' l', wide_Wide_Left.f h l n = some (h', l') ∧ U h' ∧ U l' ∧ wv h' l' = wv h l * p2 n := by
  obtain ⟨h', l', e, u1, u2, ev⟩ := wide_Left_eq hh hl hn
  refine ⟨h', l', e, u1, u2, ?_⟩
  rw [ev, Int.emod_eq_of_lt (Int.mul_nonneg (wv_range hh hl).1 (Int.le_of_lt (p2_pos n))) hs]

theorem right_tail {h l n oh ol : Int} (hh : U h) (hl : U l) (ho : U oh) (ho' : U ol) (h1 : ¬ n ≤ 0) (hn : n ≤ 4611686018427387904) (ev : wv oh ol = wv h l / p2 n) :
    Ev (fun k => wide_Wide_Right.j0 k n h l oh ol) (oh, ol, decide (wv h l % p2 n ≠ 0)) := by
  have hv := wv_range hh hl
  have hP := p2_pos n
  have hr0 := Int.emod_nonneg (wv h l) (Int.ne_of_gt hP)
  have hc := cut_div (v := wv h l) hP
  have hle : wv oh ol * p2 n < 340282366920938463463374607431768211456 := by rw [ev, hc]; omega
  obtain ⟨h', l', e, u1, u2, ev2⟩ := wide_Left_small ho ho' hn hle
  refine Ev.succ ?_
  simp only [wide_Wide_Right.j0]
  refine Ev.call e ?_
  dsimp only
  rw [ev, hc] at ev2
  by_cases hz : wv h l % p2 n = 0
  · have ee := wv_inj u1 u2 hh hl (by rw [ev2, hz]; omega)
    obtain ⟨rfl, rfl⟩ := ee
    refine Ev.neg (by simp) ?_
    rw [show decide (wv h' l' % p2 n ≠ 0) = false from by simp [hz]]
    by_cases h2 : n ≥ 128
    · refine Ev.pos h2 (Ev.call (wide_Zero_eq hh hl) ?_)
      have : wv h' l' = 0 := by
        have := Int.emod_eq_of_lt hv.1 (show wv h' l' < p2 n from by have := p2_le h2; rw [p2_128] at this; omega)
        omega
      rw [decide_eq_true this]
      exact Ev.now _
    · exact Ev.neg h2 (Ev.now _)
  · refine Ev.pos ?_ ?_
    · by_cases hc1 : h' = h
      · by_cases hc2 : l' = l
        · subst hc1 hc2; omega
        · simp [hc2]
      · simp [hc1]
    · rw [show decide (wv h l % p2 n ≠ 0) = true from by simp [hz]]
      exact Ev.now _
theorem wide_Right_ev {h l n : Int} (hh : U h) (hl : U l) (hn : n ≤ 4611686018427387904) : ∃ h' l', Ev (fun k => wide_Wide_Right.f k h l n) (h', l', decide (wv h l % p2 n ≠ 0)) ∧ U h' ∧ U l' ∧ wv h' l' = wv h l / p2 n := by
  have hv := wv_range hh hl
  unfold wide_Wide_Right.f
  by_cases h1 : n ≤ 0
  · rw [p2_neg h1]
    refine ⟨h, l, ?_, hh, hl, by omega⟩
    rw [show decide (wv h l % 1 ≠ 0) = false from by simp]
    exact Ev.pos h1 (Ev.now _)
  · by_cases h2 : n ≥ 128
    · have e0 : wv 0 0 = wv h l / p2 n := by
        have : wv h l < p2 n := by have := p2_le h2; rw [p2_128] at this; omega
        rw [Int.ediv_eq_zero_of_lt hv.1 this]; rfl
      have u0 : U 0 := ⟨by decide, by decide⟩
      exact ⟨0, 0, Ev.neg h1 (Ev.pos h2 (right_tail hh hl u0 u0 h1 hn e0)), u0, u0, e0⟩
    · by_cases h3 : n ≥ 64
      · have u0 : U 0 := ⟨by decide, by decide⟩
        have hP := p2_pos (n - 64)
        have hh' := hh
        obtain ⟨x0, x1⟩ := hh
        have u1 : U (h / p2 (n - 64)) := ⟨Int.ediv_nonneg x0 (Int.le_of_lt hP), by have := Int.ediv_le_self (p2 (n - 64)) x0; omega⟩
        have e0 : wv 0 (h / p2 (n - 64)) = wv h l / p2 n := by
          have e : p2 n = 18446744073709551616 * p2 (n - 64) := by rw [← p2_64, ← p2_add (by omega) (by omega)]; congr 1; omega
          have e3 : wv h l / 18446744073709551616 = h := by obtain ⟨y0, y1⟩ := hl; unfold wv; omega
          rw [e, ← Int.ediv_ediv_of_nonneg (by decide), e3]
          unfold wv; omega
        refine ⟨0, h / p2 (n - 64), Ev.neg h1 (Ev.neg h2 (Ev.pos h3 ?_)), u0, u1, e0⟩
        rw [w64 (by omega) (by omega), shr_u64 (by omega) (by omega)]
        exact Ev.pos (by omega) (right_tail hh' hl u0 u1 h1 hn e0)
      · have hP := p2_pos n
        have hQ := p2_pos (64 - n)
        have hQP : p2 (64 - n) * p2 n = 18446744073709551616 := by rw [← p2_64, ← p2_add (by omega) (by omega)]; congr 1; omega
        obtain ⟨c0, c1, d0, d1, el⟩ := part_lt hl hQ hP hQP
        obtain ⟨a0, a1, b0, b1, eh⟩ := part_lt hh hQ hP hQP
        obtain ⟨mh, mh0, mh1⟩ := mul_mod_cut hh hQ hP hQP
        have hP1 : 1 ≤ p2 n := hP
        have hQ1 : p2 (64 - n) ≤ 18446744073709551616 := by rw [← p2_64]; exact p2_le (by omega)
        have u1 : U (h / p2 n) := ⟨a0, by omega⟩
        have u2 : U (h % p2 n * p2 (64 - n) + l / p2 n) := ⟨by omega, by omega⟩
        have e0 : wv (h / p2 n) (h % p2 n * p2 (64 - n) + l / p2 n) = wv h l / p2 n := by
          have e1 : wv h l = wv (h / p2 n) (h % p2 n * p2 (64 - n) + l / p2 n) * p2 n + l % p2 n := by
            unfold wv
            generalize h / p2 n = A at *
            generalize h % p2 n = B at *
            generalize l / p2 n = C at *
            generalize l % p2 n = D at *
            generalize p2 n = P at *
            generalize p2 (64 - n) = Q at *
            subst eh el
            rw [← hQP]
            grind
          rw [e1, Int.add_comm _ (l % p2 n), Int.add_mul_ediv_right _ _ (Int.ne_of_gt hP), Int.ediv_eq_zero_of_lt d0 d1, Int.zero_add]
        refine ⟨_, _, Ev.neg h1 (Ev.neg h2 (Ev.neg h3 (Ev.pos (by omega) ?_))), u1, u2, e0⟩
        rw [w64 (by omega) (by omega), shr_u64 (by omega) (by omega), shl_u64 (by omega) (by omega), shr_u64 (by omega) (by omega), mh]
        have hmod : h % p2 n * p2 (64 - n) % 2 ^ (64 - n).toNat = 0 := by
          show h % p2 n * p2 (64 - n) % p2 (64 - n) = 0
          exact Int.mul_emod_left _ _
        rw [u64_or (64 - n).toNat mh0 hmod (by omega) c0 c1 (by omega)]
        exact Ev.pos (by omega) (right_tail hh hl u1 u2 h1 hn e0)

theorem wide_Add_eq {h l h' l' : Int} (hh : U h) (hl : U l) (hh' : U h') (hl' : U l') : ∃ a b, wide_Wide_Add.f h l h' l' = some (a, b, decide (340282366920938463463374607431768211456 ≤ wv h l + wv h' l')) ∧ U a ∧ U b ∧ wv a b = (wv h l + wv h' l') % 340282366920938463463374607431768211456 := by
  obtain ⟨x0, x1⟩ := hh; obtain ⟨x2, x3⟩ := hl; obtain ⟨x4, x5⟩ := hh'; obtain ⟨x6, x7⟩ := hl'
  unfold wide_Wide_Add.f bits_Add64.f
  rw [if_pos x2, if_pos x6, if_pos (by decide), if_pos (by decide)]
  simp only [Option.bind_some]
  rw [if_pos x0, if_pos x4, if_pos (by omega), if_pos (by omega)]
  simp only [Option.bind_some]
  refine ⟨_, _, congrArg some (Prod.ext rfl (Prod.ext rfl ?_)), ⟨by omega, by omega⟩, ⟨by omega, by omega⟩, ?_⟩
  · rw [Bool.eq_iff_iff]
    unfold wv
    simp
    omega
  · unfold wv
    omega

/-- How many bits a whole number has. -/
def blen (x : Int) : Int := if x ≤ 0 then 0 else (Nat.log2 x.toNat : Int) + 1
theorem blen_pos {x : Int} (h : 0 < x) : 1 ≤ blen x ∧ p2 (blen x - 1) ≤ x ∧ x < p2 (blen x) := by
  unfold blen p2
  rw [if_neg (by omega)]
  obtain ⟨n, rfl⟩ := Int.eq_ofNat_of_zero_le (Int.le_of_lt h)
  have hn : n ≠ 0 := by omega
  have h1 := Nat.log2_self_le hn
  have h2 := Nat.lt_log2_self (n := n)
  simp only [Int.toNat_natCast]
  refine ⟨by omega, ?_, ?_⟩
  · rw [show ((n.log2 : Int) + 1 - 1).toNat = n.log2 from by omega]; exact_mod_cast h1
  · rw [show ((n.log2 : Int) + 1).toNat = n.log2 + 1 from by omega]; exact_mod_cast h2
theorem blen_nonneg (x : Int) : 0 ≤ blen x := by unfold blen; split <;> omega
theorem blen_unique {x L : Int} (hL : 1 ≤ L) (h1 : p2 (L - 1) ≤ x) (h2 : x < p2 L) : blen x = L := by
  have hx : 0 < x := by have := p2_pos (L - 1); omega
  obtain ⟨b0, b1, b2⟩ := blen_pos hx
  have h3 : ¬ blen x < L := fun hc => by have := p2_le (show blen x ≤ L - 1 from by omega); omega
  have h4 : ¬ L < blen x := fun hc => by have := p2_le (show L ≤ blen x - 1 from by omega); omega
  omega
theorem blen_shift {x s : Int} (hs : 0 ≤ s) (hx : p2 s ≤ x) : blen x = s + blen (x / p2 s) := by
  have hP := p2_pos s
  have hq : 0 < x / p2 s := by have := Int.le_ediv_of_mul_le hP (show 1 * p2 s ≤ x from by omega); omega
  obtain ⟨b0, b1, b2⟩ := blen_pos hq
  have e := Int.mul_ediv_add_emod x (p2 s)
  have r0 := Int.emod_nonneg x (Int.ne_of_gt hP)
  have r1 := Int.emod_lt_of_pos x hP
  refine blen_unique (by omega) ?_ ?_
  · have : p2 (s + blen (x / p2 s) - 1) = p2 s * p2 (blen (x / p2 s) - 1) := by rw [← p2_add hs (by omega)]; congr 1; omega
    rw [this]
    have := Int.mul_le_mul_of_nonneg_left b1 (Int.le_of_lt hP)
    omega
  · rw [p2_add hs (by omega)]
    have : p2 s * (x / p2 s + 1) ≤ p2 s * p2 (blen (x / p2 s)) := Int.mul_le_mul_of_nonneg_left b2 (Int.le_of_lt hP)
    have e2 : p2 s * (x / p2 s + 1) = p2 s * (x / p2 s) + p2 s := by grind
    omega
theorem blen_le {x L : Int} (hL : 0 ≤ L) (h : x < p2 L) : blen x ≤ L := by
  by_cases hx : 0 < x
  · obtain ⟨b0, b1, b2⟩ := blen_pos hx
    exact Int.not_lt.mp (fun hc => by have := p2_le (show L ≤ blen x - 1 from by omega); omega)
  · unfold blen; rw [if_pos (by omega)]; exact hL
theorem blen_tab : ∀ i : Fin 256, bt (⟨#[0, 1, 2, 2, 3, 3, 3, 3, 4, 4, 4, 4, 4, 4, 4, 4, 5, 5, 5, 5, 5, 5, 5, 5, 5, 5, 5, 5, 5, 5, 5, 5, 6, 6, 6, 6, 6, 6, 6, 6, 6, 6, 6, 6, 6, 6, 6, 6, 6, 6, 6, 6, 6, 6, 6, 6, 6, 6, 6, 6, 6, 6, 6, 6, 7, 7, 7, 7, 7, 7, 7, 7, 7, 7, 7, 7, 7, 7, 7, 7, 7, 7, 7, 7, 7, 7, 7, 7, 7, 7, 7, 7, 7, 7, 7, 7, 7, 7, 7, 7, 7, 7, 7, 7, 7, 7, 7, 7, 7, 7, 7, 7, 7, 7, 7, 7, 7, 7, 7, 7, 7, 7, 7, 7, 7, 7, 7, 7, 8, 8, 8, 8, 8, 8, 8, 8, 8, 8, 8, 8, 8, 8, 8, 8, 8, 8, 8, 8, 8, 8, 8, 8, 8, 8, 8, 8, 8, 8, 8, 8, 8, 8, 8, 8, 8, 8, 8, 8, 8, 8, 8, 8, 8, 8, 8, 8, 8, 8, 8, 8, 8, 8, 8, 8, 8, 8, 8, 8, 8, 8, 8, 8, 8, 8, 8, 8, 8, 8, 8, 8, 8, 8, 8, 8, 8, 8, 8, 8, 8, 8, 8, 8, 8, 8, 8, 8, 8, 8, 8, 8, 8, 8, 8, 8, 8, 8, 8, 8, 8, 8, 8, 8, 8, 8, 8, 8, 8, 8, 8, 8, 8, 8, 8, 8, 8, 8, 8, 8, 8, 8, 8, 8, 8, 8, 8, 8]⟩ : ByteArray) (i.val : Int) = blen (i.val : Int) := by decide +kernel
theorem blen_tab_eq {i : Int} (h0 : 0 ≤ i) (h1 : i < 256) : bt (⟨#[0, 1, 2, 2, 3, 3, 3, 3, 4, 4, 4, 4, 4, 4, 4, 4, 5, 5, 5, 5, 5, 5, 5, 5, 5, 5, 5, 5, 5, 5, 5, 5, 6, 6, 6, 6, 6, 6, 6, 6, 6, 6, 6, 6, 6, 6, 6, 6, 6, 6, 6, 6, 6, 6, 6, 6, 6, 6, 6, 6, 6, 6, 6, 6, 7, 7, 7, 7, 7, 7, 7, 7, 7, 7, 7, 7, 7, 7, 7, 7, 7, 7, 7, 7, 7, 7, 7, 7, 7, 7, 7, 7, 7, 7, 7, 7, 7, 7, 7, 7, 7, 7, 7, 7, 7, 7, 7, 7, 7, 7, 7, 7, 7, 7, 7, 7, 7, 7, 7, 7, 7, 7, 7, 7, 7, 7, 7, 7, 8, 8, 8, 8, 8, 8, 8, 8, 8, 8, 8, 8, 8, 8, 8, 8, 8, 8, 8, 8, 8, 8, 8, 8, 8, 8, 8, 8, 8, 8, 8, 8, 8, 8, 8, 8, 8, 8, 8, 8, 8, 8, 8, 8, 8, 8, 8, 8, 8, 8, 8, 8, 8, 8, 8, 8, 8, 8, 8, 8, 8, 8, 8, 8, 8, 8, 8, 8, 8, 8, 8, 8, 8, 8, 8, 8, 8, 8, 8, 8, 8, 8, 8, 8, 8, 8, 8, 8, 8, 8, 8, 8, 8, 8, 8, 8, 8, 8, 8, 8, 8, 8, 8, 8, 8, 8, 8, 8, 8, 8, 8, 8, 8, 8, 8, 8, 8, 8, 8, 8, 8, 8, 8, 8, 8, 8, 8, 8]⟩ : ByteArray) i = blen i := by
  obtain ⟨n, rfl⟩ := Int.eq_ofNat_of_zero_le h0
  exact blen_tab ⟨n, by omega⟩
set_option maxRecDepth 100000 in
theorem bits_Len64_j0 {x s : Int} (h0 : 0 ≤ x) (h1 : x < 4294967296) (hs : 0 ≤ s) (hs' : s ≤ 64) : Ev (fun k => bits_Len64.j0 k x s) (s + blen x) := by
  refine Ev.succ ?_
  simp only [bits_Len64.j0]
  have q16 : p2 16 = 65536 := by decide
  have q8 : p2 8 = 256 := by decide
  by_cases c1 : x ≥ 65536
  · refine Ev.pos c1 ?_
    have e1 : blen x = 16 + blen (x / 65536) := by rw [← q16]; exact blen_shift (by decide) (by rw [q16]; exact c1)
    by_cases c2 : x / 65536 ≥ 256
    · refine Ev.pos c2 (Ev.pos (by omega) (Ev.pos (by omega) ?_))
      have e2 : blen (x / 65536) = 8 + blen (x / 65536 / 256) := by rw [← q8]; exact blen_shift (by decide) (by rw [q8]; exact c2)
      rw [blen_tab_eq (by omega) (by omega), show x / 65536 / 256 % 256 = x / 65536 / 256 from by omega]
      have b1 := blen_nonneg (x / 65536 / 256)
      have b2 : blen (x / 65536 / 256) ≤ 8 := blen_le (by decide) (by rw [q8]; omega)
      rw [w64 (x := blen _) (by omega) (by omega), w64 (x := s + 16) (by omega) (by omega), w64 (x := s + 16 + 8) (by omega) (by omega), w64 (by omega) (by omega), e1, e2]
      rw [show s + 16 + 8 + blen (x / 65536 / 256) = s + (16 + (8 + blen (x / 65536 / 256))) from by omega]
      exact Ev.now _
    · refine Ev.neg c2 (Ev.pos (by omega) (Ev.pos (by omega) ?_))
      rw [blen_tab_eq (by omega) (by omega), show x / 65536 % 256 = x / 65536 from by omega]
      have b1 := blen_nonneg (x / 65536)
      have b2 : blen (x / 65536) ≤ 8 := blen_le (by decide) (by rw [q8]; omega)
      rw [w64 (x := blen _) (by omega) (by omega), w64 (x := s + 16) (by omega) (by omega), w64 (by omega) (by omega), e1]
      rw [show s + 16 + blen (x / 65536) = s + (16 + blen (x / 65536)) from by omega]
      exact Ev.now _
  · refine Ev.neg c1 ?_
    by_cases c2 : x ≥ 256
    · refine Ev.pos c2 (Ev.pos (by omega) (Ev.pos (by omega) ?_))
      have e2 : blen x = 8 + blen (x / 256) := by rw [← q8]; exact blen_shift (by decide) (by rw [q8]; exact c2)
      rw [blen_tab_eq (by omega) (by omega), show x / 256 % 256 = x / 256 from by omega]
      have b1 := blen_nonneg (x / 256)
      have b2 : blen (x / 256) ≤ 8 := blen_le (by decide) (by rw [q8]; omega)
      rw [w64 (x := blen _) (by omega) (by omega), w64 (x := s + 8) (by omega) (by omega), w64 (by omega) (by omega), e2]
      rw [show s + 8 + blen (x / 256) = s + (8 + blen (x / 256)) from by omega]
      exact Ev.now _
    · refine Ev.neg c2 (Ev.pos (by omega) (Ev.pos (by omega) ?_))
      rw [blen_tab_eq (by omega) (by omega), show x % 256 = x from by omega]
      have b1 := blen_nonneg x
      have b2 : blen x ≤ 8 := blen_le (by decide) (by rw [q8]; omega)
      rw [w64 (x := blen _) (by omega) (by omega), w64 (by omega) (by omega)]
      exact Ev.now _
theorem bits_Len64_ev {x : Int} (h : U x) : Ev (fun k => bits_Len64.f k x) (blen x) := by
  obtain ⟨h0, h1⟩ := h
  unfold bits_Len64.f
  have q32 : p2 32 = 4294967296 := by decide
  by_cases c1 : x ≥ 4294967296
  · have e1 : blen x = 32 + blen (x / 4294967296) := by rw [← q32]; exact blen_shift (by decide) (by rw [q32]; exact c1)
    rw [e1]
    exact Ev.pos c1 (bits_Len64_j0 (by omega) (by omega) (by decide) (by decide))
  · have := bits_Len64_j0 (x := x) (s := 0) h0 (by omega) (by decide) (by decide)
    rw [Int.zero_add] at this
    exact Ev.neg c1 this
theorem wide_Len_ev {h l : Int} (hh : U h) (hl : U l) : Ev (fun k => wide_Wide_Len.f k h l) (blen (wv h l)) := by
  unfold wide_Wide_Len.f
  have hx := hh
  obtain ⟨x0, x1⟩ := hh
  have hy := hl
  obtain ⟨y0, y1⟩ := hl
  by_cases c : h = 0
  · subst c
    rw [show wv 0 l = l from by unfold wv; omega]
    exact Ev.pos rfl (Ev.bind (bits_Len64_ev hy) (Ev.now _))
  · refine Ev.neg c (Ev.bind (bits_Len64_ev hx) ?_)
    have e1 : blen (wv h l) = 64 + blen (wv h l / 18446744073709551616) := by
      rw [← p2_64]; exact blen_shift (by decide) (by rw [p2_64]; unfold wv; omega)
    have e2 : wv h l / 18446744073709551616 = h := by unfold wv; omega
    have b1 := blen_nonneg h
    have b2 : blen h ≤ 64 := blen_le (by decide) (by rw [p2_64]; omega)
    rw [e1, e2, w64 (by omega) (by omega)]
    exact Ev.now _
theorem blen_wv_le {h l : Int} (hh : U h) (hl : U l) : blen (wv h l) ≤ 128 := blen_le (by decide) (by rw [p2_128]; exact (wv_range hh hl).2)
theorem blen_mono {x y : Int} (h : x ≤ y) : blen x ≤ blen y := by
  by_cases hy : 0 < y
  · exact blen_le (blen_nonneg y) (by have := (blen_pos hy).2.2; omega)
  · unfold blen; rw [if_pos (by omega), if_pos (by omega)]; exact Int.le_refl _

theorem u8_or_1 : bits .or .u8 0 1 = 1 := by decide
theorem u8_or_2 : bits .or .u8 1 2 = 3 := by decide
/-- The flags' first half. -/
def fl (lost tiny : Bool) : Int := if lost then (if tiny then 3 else 1) else 0

theorem round_j6 (neg tiny lost : Bool) {q n : Int} (hq : -1074 ≤ q) (hq' : q ≤ 1000000) (hn : 0 ≤ n) (h1 : n < 9007199254740992) (h2 : q = -1074 ∨ 4503599627370496 ≤ n)
    (ht : tiny = true → enc q n < INF) :
    Ev (fun k => round_Round.j6 k neg q n (fl lost tiny)) (signed neg (if enc q n < INF then enc q n else INF), if enc q n < INF then fl lost tiny else 5) := by
  refine Ev.succ ?_
  simp only [round_Round.j6]
  have hU : U n := ⟨hn, by omega⟩
  have U0 : U 0 := ⟨by decide, by decide⟩
  by_cases ha : n < 4503599627370496
  · obtain rfl : q = -1074 := by omega
    have e : enc (-1074) n = n := by unfold enc; omega
    have hI : n < INF := by unfold INF; omega
    rw [e]
    simp only [if_pos hI]
    refine Ev.pos ha (Ev.call (word_Make_eq neg (by decide) (by decide) hU) ?_)
    rw [show (0 : Int) * 4503599627370496 + n % 4503599627370496 = n from by omega]
    exact Ev.now _
  · refine Ev.neg ha ?_
    rw [w64 (x := q + 1075) (by omega) (by omega)]
    by_cases hb : q + 1075 ≥ 2047
    · have e : ¬ enc q n < INF := by unfold enc INF; omega
      simp only [if_neg e]
      refine Ev.pos hb (Ev.call (word_Make_eq neg (by decide) (by decide) U0) ?_)
      have ht' : tiny = false := by
        cases tiny
        · rfl
        · exact absurd (ht rfl) e
      subst ht'
      have e2 : bits .or .u8 (bits .or .u8 (fl lost false) 4) 1 = 5 := by cases lost <;> decide
      rw [e2, show (2047 : Int) * 4503599627370496 + 0 % 4503599627370496 = INF from by decide]
      exact Ev.now _
    · have e : enc q n < INF := by unfold enc INF; omega
      simp only [if_pos e]
      refine Ev.neg hb (Ev.call (word_Make_eq neg (by omega) (by omega) hU) ?_)
      rw [show (q + 1075) * 4503599627370496 + n % 4503599627370496 = enc q n from by unfold enc; omega]
      exact Ev.now _

theorem round_j4 (neg tiny lost : Bool) {E d q n hi : Int} (hE : -1000000 ≤ E) (hE' : E ≤ 1000000) (hd : -1000000 ≤ d) (hd' : d ≤ 1000000) (hqe : E + d = q) (hq : -1074 ≤ q) (hq' : q ≤ 200000) (hn : 0 ≤ n) (h1 : n ≤ 9007199254740992) (h2 : q = -1074 ∨ 4503599627370496 ≤ n)
    (ht : tiny = true → enc q n < INF) :
    Ev (fun k => round_Round.j4 k neg E d tiny lost hi n) (signed neg (if enc q n < INF then enc q n else INF), if enc q n < INF then fl lost tiny else 5) := by
  have j5 : ∀ q' n', -1074 ≤ q' → q' ≤ 1000000 → 0 ≤ n' → n' < 9007199254740992 → (q' = -1074 ∨ 4503599627370496 ≤ n') → enc q' n' = enc q n →
      Ev (fun k => round_Round.j5 k neg q' tiny lost n') (signed neg (if enc q n < INF then enc q n else INF), if enc q n < INF then fl lost tiny else 5) := by
    intro q' n' a b c d' e f
    refine Ev.succ ?_
    simp only [round_Round.j5]
    have h6 := round_j6 neg tiny lost a b c d' e (by rw [f]; exact ht)
    rw [f] at h6
    cases lost
    · refine Ev.neg (by decide) ?_
      exact h6
    · refine Ev.pos rfl ?_
      cases tiny
      · refine Ev.neg (by decide) ?_
        rw [u8_or_1]; exact h6
      · refine Ev.pos rfl ?_
        rw [u8_or_1, u8_or_2]; exact h6
  refine Ev.succ ?_
  simp only [round_Round.j4]
  rw [w64 (x := E + d) (by omega) (by omega), hqe]
  by_cases ha : n = 9007199254740992
  · subst ha
    refine Ev.pos rfl ?_
    rw [w64 (x := q + 1) (by omega) (by omega)]
    exact j5 (q + 1) _ (by omega) (by omega) (by decide) (by decide) (.inr (by decide)) (by unfold enc; omega)
  · exact Ev.neg ha (j5 q n hq (by omega) hn (by omega) h2 rfl)

/-- One half of the last place, and what lies beneath. -/
theorem half_rest {W d : Int} (hW : 0 ≤ W) (hd : 0 < d) : (W / p2 (d - 1)) % 2 = (if p2 d ≤ 2 * (W % p2 d) then 1 else 0) ∧ W % p2 (d - 1) = (if p2 d ≤ 2 * (W % p2 d) then W % p2 d - p2 (d - 1) else W % p2 d) := by
  have hP := p2_pos (d - 1)
  have e : p2 d = 2 * p2 (d - 1) := by rw [← p2_succ (by omega)]; congr 1; omega
  have m1 := Int.mul_ediv_add_emod W (p2 (d - 1))
  have r0 := Int.emod_nonneg W (Int.ne_of_gt hP)
  have r1 := Int.emod_lt_of_pos W hP
  have hD := p2_pos d
  have m2 := Int.mul_ediv_add_emod W (p2 d)
  have s0 := Int.emod_nonneg W (Int.ne_of_gt hD)
  have s1 := Int.emod_lt_of_pos W hD
  have key : W % p2 d = (W / p2 (d - 1) % 2) * p2 (d - 1) + W % p2 (d - 1) := by
    have h2 : W / p2 (d - 1) = 2 * (W / p2 (d - 1) / 2) + W / p2 (d - 1) % 2 := by omega
    have h3 : W = (W / p2 (d - 1) % 2 * p2 (d - 1) + W % p2 (d - 1)) + p2 d * (W / p2 (d - 1) / 2) := by
      rw [e]
      generalize W / p2 (d - 1) / 2 = X at *
      generalize W / p2 (d - 1) % 2 = Y at *
      rw [h2] at m1
      grind
    have hb : 0 ≤ W / p2 (d - 1) % 2 ∧ W / p2 (d - 1) % 2 ≤ 1 := by omega
    have hb2 : W / p2 (d - 1) % 2 * p2 (d - 1) ≤ 1 * p2 (d - 1) := Int.mul_le_mul_of_nonneg_right hb.2 (Int.le_of_lt hP)
    have hb3 : 0 ≤ W / p2 (d - 1) % 2 * p2 (d - 1) := Int.mul_nonneg hb.1 (Int.le_of_lt hP)
    have := Int.add_mul_emod_self_left (W / p2 (d - 1) % 2 * p2 (d - 1) + W % p2 (d - 1)) (p2 d) (W / p2 (d - 1) / 2)
    rw [← h3] at this
    rw [this]
    exact Int.emod_eq_of_lt (by omega) (by omega)
  rcases (show W / p2 (d - 1) % 2 = 0 ∨ W / p2 (d - 1) % 2 = 1 from by omega) with hb | hb
  · rw [hb] at key
    rw [hb, if_neg (by omega), if_neg (by omega)]
    omega
  · rw [hb] at key
    rw [hb, if_pos (by omega), if_pos (by omega)]
    omega

theorem round_split_ev {h l d : Int} (hh : U h) (hl : U l) (hW : 0 < wv h l) (hd : 0 < d) (hd' : d ≤ 1000000) :
    Ev (fun k => round_split.f k h l d (decide (wv h l % p2 d ≠ 0))) (decide (p2 d ≤ 2 * (wv h l % p2 d)), if p2 d ≤ 2 * (wv h l % p2 d) then decide (wv h l % p2 d ≠ p2 (d - 1)) else decide (wv h l % p2 d ≠ 0)) := by
  have hv := wv_range hh hl
  unfold round_split.f
  by_cases h1 : d > 128
  · have hm : wv h l % p2 d = wv h l := Int.emod_eq_of_lt hv.1 (by have := p2_le (show 128 ≤ d from by omega); rw [p2_128] at this; omega)
    have hbig : ¬ p2 d ≤ 2 * (wv h l % p2 d) := by
      rw [hm]
      have := p2_le (show 129 ≤ d from by omega)
      have e : p2 129 = 680564733841876926926749214863536422912 := by decide
      rw [e] at this
      omega
    rw [if_neg hbig, decide_eq_false hbig]
    exact Ev.pos h1 (Ev.now _)
  · refine Ev.neg h1 ?_
    obtain ⟨a, b, ev, u1, u2, e⟩ := wide_Right_ev (n := d - 1) hh hl (by omega)
    rw [w64 (x := d - 1) (by omega) (by omega)]
    refine Ev.bind ev ?_
    dsimp only
    obtain ⟨k1, k2⟩ := half_rest hv.1 hd
    rw [u64_and1 u2.1 u2.2]
    have e1 : b % 2 = wv h l / p2 (d - 1) % 2 := by rw [← e]; unfold wv; omega
    rw [e1, k1, k2]
    have hP := p2_pos (d - 1)
    by_cases hc : p2 d ≤ 2 * (wv h l % p2 d)
    · simp only [if_pos hc, decide_eq_true hc]
      have e2 : decide (wv h l % p2 d - p2 (d - 1) ≠ 0) = decide (wv h l % p2 d ≠ p2 (d - 1)) := by
        apply decide_eq_decide.mpr
        constructor <;> intro h <;> omega
      rw [e2]
      exact Ev.now _
    · simp only [if_neg hc, decide_eq_false hc]
      exact Ev.now _

/-- What is rounded, and how. -/
def rup (W d : Int) (more : Bool) : Int := if p2 d ≤ 2 * (W % p2 d) ∧ (W % p2 d ≠ p2 (d - 1) ∨ more = true ∨ W / p2 d % 2 = 1) then W / p2 d + 1 else W / p2 d

theorem rup_rnd {W E d : Int} {more : Bool} {x : Rat} (hW : 0 < W) (hd : 0 < d) (hq : -1074 ≤ E + d) (hL : blen W - 53 ≤ d) (hq2 : E + d = -1074 ∨ d = blen W - 53)
    (hx0 : more = false → x = (W : Rat) * pw E) (hx1 : more = true → (W : Rat) * pw E < x ∧ x < (W + 1 : Int) * pw E) :
    Rnd x (E + d) (rup W d more) ∧ (x = (rup W d more : Rat) * pw (E + d) ↔ (W % p2 d = 0 ∧ more = false)) := by
  have hD := p2_pos d
  have hP := p2_pos (d - 1)
  have e : p2 d = 2 * p2 (d - 1) := by rw [← p2_succ (by omega)]; congr 1; omega
  have hu := pw_pos E
  have hqD : pw (E + d) = (p2 d : Rat) * pw E := by rw [pw_add, pw_p2 (a := d) (by omega), Rat.mul_comm]
  have m2 := Int.mul_ediv_add_emod W (p2 d)
  have s0 := Int.emod_nonneg W (Int.ne_of_gt hD)
  have s1 := Int.emod_lt_of_pos W hD
  obtain ⟨bl1, bl2, bl3⟩ := blen_pos hW
  have hxlo : (W : Rat) * pw E ≤ x := by
    cases more
    · rw [hx0 rfl]; exact Rat.le_refl
    · exact Rat.le_of_lt (hx1 rfl).1
  have hxhi : x < (W + 1 : Int) * pw E := by
    cases more
    · rw [hx0 rfl]; exact mul_pw_lt.mpr (by omega)
    · exact (hx1 rfl).2
  have hpos : 0 < x := by
    have : (0 : Int) * pw E < (W : Rat) * pw E := mul_pw_lt.mpr hW
    grind
  -- a whole number times pw q, as one times pw E
  have hn : ∀ n : Int, (n : Rat) * pw (E + d) = (n * p2 d : Int) * pw E := by
    intro n; rw [hqD]; push_cast; grind
  have hlo : E + d = -1074 ∨ (4503599627370496 : Int) * pw (E + d) ≤ x := by
    rcases hq2 with h | h
    · exact .inl h
    · refine .inr (Rat.le_trans ?_ hxlo)
      rw [hn]
      apply mul_pw_le.mpr
      have e52 : (4503599627370496 : Int) = p2 52 := by decide
      rw [e52, ← p2_add (by decide) (by omega), show 52 + d = blen W - 1 from by omega]
      exact bl2
  have hhi : x < (9007199254740992 : Int) * pw (E + d) := by
    refine Std.lt_of_lt_of_le hxhi ?_
    rw [hn]
    apply mul_pw_le.mpr
    have e53 : (9007199254740992 : Int) = p2 53 := by decide
    rw [e53, ← p2_add (by decide) (by omega)]
    have := p2_le (show blen W ≤ 53 + d from by omega)
    omega
  generalize hA : W / p2 d = A at *
  generalize hR : W % p2 d = R at *
  have two : ∀ {y z : Int}, y ≤ z → ((y : Int) : Rat) * pw E ≤ z * pw E := fun h => mul_pw_le.mpr h
  have x2 : (2 * W : Int) * pw E ≤ 2 * x := by push_cast; grind
  have x2' : 2 * x < (2 * W + 2 : Int) * pw E := by push_cast at hxhi ⊢; grind
  have ex0 : more = false → 2 * x = (2 * W : Int) * pw E := fun h => by rw [hx0 h]; push_cast; grind
  have ex1 : more = true → (2 * W : Int) * pw E < 2 * x := fun h => by have := (hx1 h).1; push_cast; grind
  by_cases hup : p2 d ≤ 2 * R ∧ (R ≠ p2 (d - 1) ∨ more = true ∨ A % 2 = 1)
  · have er : rup W d more = A + 1 := by unfold rup; rw [hA, hR, if_pos hup]
    rw [er]
    obtain ⟨u1, u2⟩ := hup
    have lt1 : 2 * x < (2 * (A + 1) + 1 : Int) * pw (E + d) := by
      rw [hn]
      refine Std.lt_of_lt_of_le x2' (two ?_)
      have : (2 * (A + 1) + 1) * p2 d = 2 * (p2 d * A) + 3 * p2 d := by grind
      omega
    have ge1 : (2 * (A + 1) - 1 : Int) * pw (E + d) ≤ 2 * x := by
      rw [hn]
      refine Rat.le_trans (two ?_) x2
      have : (2 * (A + 1) - 1) * p2 d = 2 * (p2 d * A) + p2 d := by grind
      omega
    refine ⟨⟨hq, hlo, hhi, hpos, Rat.le_of_lt lt1, ge1, fun h => absurd h (by grind), fun h => ?_⟩, ?_⟩
    · -- a tie: nothing more, and A is odd
      rw [hn] at h
      have t1 : (2 * (A + 1) - 1) * p2 d = 2 * (p2 d * A) + p2 d := by grind
      rw [t1] at h
      cases hm : more
      · rw [ex0 hm] at h
        have := mul_pw_inj h
        rcases u2 with u2 | u2 | u2
        · omega
        · rw [hm] at u2; cases u2
        · omega
      · have h1 := ex1 hm
        rw [h] at h1
        have := mul_pw_lt.mp h1
        omega
    · constructor
      · intro h
        exfalso
        have h' : 2 * x = (2 * ((A + 1) * p2 d) : Int) * pw E := by rw [h, hn]; push_cast; grind
        have t1 : (A + 1) * p2 d = p2 d * A + p2 d := by grind
        rw [t1] at h'
        cases hm : more
        · rw [ex0 hm] at h'
          have := mul_pw_inj h'
          omega
        · have h1 := ex1 hm
          have h2 := x2'
          rw [h'] at h1 h2
          have := mul_pw_lt.mp h1
          have := mul_pw_lt.mp h2
          omega
      · intro ⟨h1, _⟩; omega
  · have er : rup W d more = A := by unfold rup; rw [hA, hR, if_neg hup]
    rw [er]
    have hup' : ¬ p2 d ≤ 2 * R ∨ (R = p2 (d - 1) ∧ more = false ∧ A % 2 = 0) := by
      by_cases c : p2 d ≤ 2 * R
      · refine .inr ?_
        have c2 : ¬ (R ≠ p2 (d - 1) ∨ more = true ∨ A % 2 = 1) := fun h => hup ⟨c, h⟩
        refine ⟨?_, ?_, ?_⟩
        · exact Decidable.byContradiction fun h => c2 (.inl h)
        · cases more
          · rfl
          · exact absurd (.inr (.inl rfl)) c2
        · have : ¬ A % 2 = 1 := fun h => c2 (.inr (.inr h))
          omega
      · exact .inl c
    have t1 : (2 * A + 1) * p2 d = 2 * (p2 d * A) + p2 d := by grind
    have t2 : (2 * A - 1) * p2 d = 2 * (p2 d * A) - p2 d := by grind
    have le1 : 2 * x ≤ (2 * A + 1 : Int) * pw (E + d) := by
      rw [hn, t1]
      rcases hup' with h | ⟨h, hm, h2⟩
      · exact Rat.le_trans (Rat.le_of_lt x2') (two (by omega))
      · rw [ex0 hm]; exact two (by omega)
    have ge1 : (2 * A - 1 : Int) * pw (E + d) < 2 * x := by
      rw [hn, t2]
      exact Std.lt_of_lt_of_le (mul_pw_lt.mpr (by omega)) x2
    refine ⟨⟨hq, hlo, hhi, hpos, le1, Rat.le_of_lt ge1, fun h => ?_, fun h => absurd h (by grind)⟩, ?_⟩
    · rw [hn, t1] at h
      rcases hup' with h1 | ⟨h1, hm, h2⟩
      · exfalso
        have h2 := x2'
        rw [h] at h2
        have := mul_pw_lt.mp h2
        omega
      · exact h2
    · constructor
      · intro h
        have h' : 2 * x = (2 * (A * p2 d) : Int) * pw E := by rw [h, hn]; push_cast; grind
        have t3 : A * p2 d = p2 d * A := by grind
        rw [t3] at h'
        cases hm : more
        · rw [ex0 hm] at h'
          have := mul_pw_inj h'
          exact ⟨by omega, rfl⟩
        · exfalso
          have h1 := ex1 hm
          have h2 := x2'
          rw [h'] at h1 h2
          have := mul_pw_lt.mp h1
          have := mul_pw_lt.mp h2
          omega
      · intro ⟨h1, hm⟩
        rw [hx0 hm, hn]
        congr 2
        have t3 : A * p2 d = p2 d * A := by grind
        rw [t3]
        omega

/-- Where the pattern would be infinite, the number isn't small. -/
theorem tiny_enc {x : Rat} {q n : Int} (h : Rnd x q n) (hx : x < pw (-1022)) : enc q n < INF := by
  have h1 : Rnd (vm 4503599627370496) (expo 4503599627370496) (mant 4503599627370496) := Rnd.of_vm (by decide)
  have e : vm 4503599627370496 = pw (-1022) := by
    unfold vm
    have e1 : mant 4503599627370496 = 4503599627370496 := by decide
    have e2 : expo 4503599627370496 = -1074 := by decide
    rw [e1, e2]
    have e3 : (4503599627370496 : Int) = p2 52 := by decide
    rw [e3, ← pw_p2 (by decide), ← pw_add]
    rfl
  have h2 := h.enc_mono h1 (by rw [e]; exact Rat.le_of_lt hx)
  rw [enc_mant _ (by decide)] at h2
  unfold INF
  omega

/-- ROUNDING: of w times 2^exp, or of what is a little more than that (and then w is long enough). -/
theorem round_Round_ev (neg : Bool) {h l E : Int} (hh : U h) (hl : U l) (hE : -100000 ≤ E) (hE' : E ≤ 100000) (more : Bool) {x : Rat} (hW : 0 < wv h l)
    (hx0 : more = false → x = (wv h l : Rat) * pw E) (hx1 : more = true → ((wv h l : Rat) * pw E < x ∧ x < (wv h l + 1 : Int) * pw E) ∧ 54 ≤ blen (wv h l)) :
    ∃ b f, Ev (fun k => round_Round.f k neg h l E more) (signed neg b, f) ∧ RB x b f := by
  have hv := wv_range hh hl
  obtain ⟨bl1, bl2, bl3⟩ := blen_pos hW
  have bl4 := blen_wv_le hh hl
  generalize hWW : wv h l = W at *
  have emx : mx (-100000) (mn E 100000) = E := by unfold mx mn; grind
  have hu := pw_pos E
  have hxlo : (W : Rat) * pw E ≤ x := by
    cases more
    · rw [hx0 rfl]; exact Rat.le_refl
    · exact Rat.le_of_lt (hx1 rfl).1.1
  have hxhi : x < (W + 1 : Int) * pw E := by
    cases more
    · rw [hx0 rfl]; exact mul_pw_lt.mpr (by omega)
    · exact (hx1 rfl).1.2
  have ht : decide (wrap64 (E + blen W) < -1021) = decide (x < pw (-1022)) := by
    rw [w64 (by omega) (by omega)]
    apply decide_eq_decide.mpr
    have hxl : pw (blen W - 1 + E) ≤ x := by
      refine Rat.le_trans ?_ hxlo
      rw [pw_add, pw_p2 (a := blen W - 1) (by omega)]
      exact mul_pw_le.mpr bl2
    have hxr : x < pw (blen W + E) := by
      refine Std.lt_of_lt_of_le hxhi ?_
      rw [pw_add, pw_p2 (a := blen W) (by omega)]
      exact mul_pw_le.mpr (by omega)
    constructor
    · intro h
      exact Std.lt_of_lt_of_le hxr (pw_mono (by omega))
    · intro h
      exact Decidable.byContradiction fun hc => by
        have := pw_mono (show -1022 ≤ blen W - 1 + E from by omega)
        grind
  -- from the number of bits that fall out on
  have main : ∀ d, -1074 ≤ E + d → blen W - 53 ≤ d → (E + d = -1074 ∨ d = blen W - 53) → d ≤ 200000 → -200 ≤ d →
      ∃ b f, Ev (fun k => round_Round.j0 k neg E more d (decide (x < pw (-1022))) h l) (signed neg b, f) ∧ RB x b f := by
    intro d hq hL hq2 hd1 hd2
    by_cases hd : d > 0
    · obtain ⟨hr, hex⟩ := rup_rnd hW hd hq hL hq2 hx0 (fun h => (hx1 h).1)
      refine ⟨_, _, ?_, ⟨_, _, hr, rfl, rfl⟩⟩
      obtain ⟨a, b, ev, u1, u2, ea⟩ := wide_Right_ev (n := d) hh hl (by omega)
      have hsp := round_split_ev hh hl (by rw [hWW]; exact hW) hd (by omega)
      rw [hWW] at ev hsp ea
      refine Ev.succ ?_
      simp only [round_Round.j0]
      refine Ev.pos hd (Ev.bind ev ?_)
      dsimp only
      refine Ev.bind hsp ?_
      dsimp only
      have hD := p2_pos d
      have hP := p2_pos (d - 1)
      have e : p2 d = 2 * p2 (d - 1) := by rw [← p2_succ (by omega)]; congr 1; omega
      have m2 := Int.mul_ediv_add_emod W (p2 d)
      have s0 := Int.emod_nonneg W (Int.ne_of_gt hD)
      have s1 := Int.emod_lt_of_pos W hD
      have hA0 : 0 ≤ W / p2 d := Int.ediv_nonneg (Int.le_of_lt hW) (Int.le_of_lt hD)
      have hA1 : W / p2 d < 9007199254740992 := by
        apply Int.ediv_lt_of_lt_mul hD
        have e53 : (9007199254740992 : Int) = p2 53 := by decide
        rw [e53, ← p2_add (by decide) (by omega)]
        have := p2_le (show blen W ≤ 53 + d from by omega)
        omega
      have hb : b = W / p2 d ∧ a = 0 := by unfold wv at ea; obtain ⟨x1, x2⟩ := u1; obtain ⟨x3, x4⟩ := u2; omega
      obtain ⟨rfl, rfl⟩ := hb
      have nn := hr.n_nonneg
      have nl := hr.n_le
      have ng := hr.n_ge'
      have tt : decide (x < pw (-1022)) = true → enc (E + d) (rup W d more) < INF := fun h => tiny_enc hr (of_decide_eq_true h)
      -- what is left: j2, with the answer on 'up'
      have j2 : ∀ lost : Bool, lost = decide (¬ (W % p2 d = 0 ∧ more = false)) → ∀ up : Bool, rup W d more = (if up then W / p2 d + 1 else W / p2 d) →
          Ev (fun k => round_Round.j2 k neg E d (decide (x < pw (-1022))) lost up 0 (W / p2 d)) (signed neg (if enc (E + d) (rup W d more) < INF then enc (E + d) (rup W d more) else INF),
            if enc (E + d) (rup W d more) < INF then (if x = (rup W d more : Rat) * pw (E + d) then 0 else if x < pw (-1022) then 3 else 1) else 5) := by
        intro lost hlost up hup
        have efl : fl lost (decide (x < pw (-1022))) = (if x = (rup W d more : Rat) * pw (E + d) then 0 else if x < pw (-1022) then 3 else 1) := by
          unfold fl
          by_cases c : W % p2 d = 0 ∧ more = false
          · rw [if_pos (hex.mpr c), hlost, decide_eq_false (by simpa using c)]
            rfl
          · rw [if_neg (fun h => c (hex.mp h)), hlost, decide_eq_true c]
            simp
        rw [← efl]
        refine Ev.succ ?_
        simp only [round_Round.j2]
        cases up
        · simp only [Bool.false_eq_true, if_false] at hup
          refine Ev.neg (by decide) ?_
          have := round_j4 neg (decide (x < pw (-1022))) lost (hi := 0) (by omega) (by omega) (by omega) (by omega) rfl hq (by omega) nn nl ng tt
          rw [hup] at this ⊢
          exact this
        · simp only [if_true] at hup
          have U0 : U 0 := ⟨by decide, by decide⟩
          have U1 : U 1 := ⟨by decide, by decide⟩
          obtain ⟨a', b', e1, v1, v2, e2⟩ := wide_Add_eq (h := 0) (l := W / p2 d) (h' := 0) (l' := 1) U0 ⟨hA0, by omega⟩ U0 U1
          refine Ev.pos rfl (Ev.call e1 ?_)
          dsimp only
          have eb : b' = W / p2 d + 1 := by unfold wv at e2; obtain ⟨x1, x2⟩ := v1; obtain ⟨x3, x4⟩ := v2; omega
          rw [eb]
          have := round_j4 neg (decide (x < pw (-1022))) lost (hi := a') (by omega) (by omega) (by omega) (by omega) rfl hq (by omega) nn nl ng tt
          rw [hup] at this ⊢
          exact this
      -- j1
      by_cases hc : p2 d ≤ 2 * (W % p2 d)
      · have hne : W % p2 d ≠ 0 := by omega
        have hl1 : true = decide (¬ (W % p2 d = 0 ∧ more = false)) := by simp [hne]
        rw [if_pos hc, decide_eq_true hc]
        refine Ev.pos rfl (Ev.succ ?_)
        simp only [round_Round.j1]
        refine Ev.pos trivial ?_
        by_cases hc2 : W % p2 d ≠ p2 (d - 1)
        · rw [decide_eq_true hc2]
          refine Ev.pos rfl (j2 true hl1 true ?_)
          unfold rup; rw [if_pos ⟨hc, .inl hc2⟩]; rfl
        · rw [decide_eq_false hc2]
          refine Ev.neg (by decide) ?_
          by_cases hm : more = true
          · refine Ev.pos hm (j2 true hl1 true ?_)
            unfold rup; rw [if_pos ⟨hc, .inr (.inl hm)⟩]; rfl
          · refine Ev.neg hm ?_
            rw [u64_and1 hA0 (by omega)]
            refine j2 true hl1 _ ?_
            unfold rup
            by_cases hodd : W / p2 d % 2 = 1
            · rw [if_pos ⟨hc, .inr (.inr hodd)⟩]; simp [hodd]
            · have hno : ¬ (p2 d ≤ 2 * (W % p2 d) ∧ (W % p2 d ≠ p2 (d - 1) ∨ more = true ∨ W / p2 d % 2 = 1)) := by
                intro h
                rcases h.2 with h | h | h
                · exact hc2 h
                · exact hm h
                · exact hodd h
              rw [if_neg hno]; simp [hodd]
      · rw [if_neg hc, decide_eq_false hc]
        refine Ev.neg (by decide) ?_
        have er : rup W d more = W / p2 d := by unfold rup; rw [if_neg (fun h => hc h.1)]
        by_cases hz : W % p2 d = 0
        · rw [show decide (W % p2 d ≠ 0) = false from by simp [hz]]
          refine Ev.neg (by decide) (Ev.succ ?_)
          simp only [round_Round.j1]
          refine Ev.neg (by decide) (j2 more (by cases more <;> simp [hz]) false ?_)
          rw [er]; rfl
        · rw [show decide (W % p2 d ≠ 0) = true from by simp [hz]]
          refine Ev.pos rfl (Ev.succ ?_)
          simp only [round_Round.j1]
          refine Ev.neg (by decide) (j2 true (by simp [hz]) false ?_)
          rw [er]; rfl
    · -- nothing falls out
      have hm : more = false := by
        cases hm : more
        · rfl
        · have := (hx1 hm).2; omega
      have hP := p2_pos (-d)
      have hx : x = ((W * p2 (-d) : Int) : Rat) * pw (E + d) := by
        rw [hx0 hm]
        have : pw E = (p2 (-d) : Rat) * pw (E + d) := by rw [← pw_p2 (by omega), ← pw_add]; congr 1; omega
        rw [this]; push_cast; grind
      have hn1 : W * p2 (-d) < 9007199254740992 := by
        have e53 : (9007199254740992 : Int) = p2 (blen W) * p2 (53 - blen W) := by rw [← p2_add (by omega) (by omega), show blen W + (53 - blen W) = 53 from by omega]; decide
        have h1 : W * p2 (-d) < p2 (blen W) * p2 (-d) := Int.mul_lt_mul_of_pos_right bl3 hP
        have h2 : p2 (blen W) * p2 (-d) ≤ p2 (blen W) * p2 (53 - blen W) := Int.mul_le_mul_of_nonneg_left (p2_le (by omega)) (Int.le_of_lt (p2_pos _))
        omega
      have hn0 : 0 < W * p2 (-d) := Int.mul_pos hW hP
      have hng : E + d = -1074 ∨ 4503599627370496 ≤ W * p2 (-d) := by
        rcases hq2 with h | h
        · exact .inl h
        · refine .inr ?_
          have e52 : (4503599627370496 : Int) = p2 (blen W - 1) * p2 (-d) := by rw [← p2_add (by omega) (by omega), show blen W - 1 + -d = 52 from by omega]; decide
          rw [e52]
          exact Int.mul_le_mul_of_nonneg_right bl2 (Int.le_of_lt hP)
      have hr : Rnd x (E + d) (W * p2 (-d)) := by rw [hx]; exact Rnd.self hq hn0 hn1 hng
      refine ⟨_, _, ?_, ⟨_, _, hr, rfl, rfl⟩⟩
      have efl : fl false (decide (x < pw (-1022))) = (if x = ((W * p2 (-d) : Int) : Rat) * pw (E + d) then 0 else if x < pw (-1022) then 3 else 1) := by
        rw [if_pos hx]; rfl
      rw [← efl]
      have tt : decide (x < pw (-1022)) = true → enc (E + d) (W * p2 (-d)) < INF := fun h => tiny_enc hr (of_decide_eq_true h)
      have fin : ∀ hi, Ev (fun k => round_Round.j4 k neg E d (decide (x < pw (-1022))) false hi (W * p2 (-d))) _ := fun hi =>
        round_j4 neg (decide (x < pw (-1022))) false (hi := hi) (by omega) (by omega) (by omega) (by omega) rfl hq (by omega) (Int.le_of_lt hn0) (by omega) hng tt
      refine Ev.succ ?_
      simp only [round_Round.j0, hm]
      refine Ev.neg hd ?_
      by_cases hd0 : d < 0
      · refine Ev.pos hd0 (Ev.succ ?_)
        simp only [round_Round.j3]
        refine Ev.pos rfl ?_
        rw [w64 (x := -d) (by omega) (by omega)]
        obtain ⟨a', b', e1, v1, v2, e2⟩ := wide_Left_small (n := -d) hh hl (by omega) (by rw [hWW]; omega)
        refine Ev.call e1 ?_
        dsimp only
        have eb : b' = W * p2 (-d) := by rw [hWW] at e2; unfold wv at e2; obtain ⟨x1, x2⟩ := v1; obtain ⟨x3, x4⟩ := v2; omega
        rw [eb]
        exact fin a'
      · obtain rfl : d = 0 := by omega
        refine Ev.neg hd0 (Ev.succ ?_)
        simp only [round_Round.j3]
        refine Ev.neg (by decide) (Ev.neg (by decide) ?_)
        have e1 : W * p2 (-0) = l := by
          rw [show p2 (-0) = 1 from rfl, Int.mul_one]
          have : W < 9007199254740992 := by rw [show p2 (-0) = 1 from rfl, Int.mul_one] at hn1; exact hn1
          unfold wv at hWW; obtain ⟨x1, x2⟩ := hh; obtain ⟨x3, x4⟩ := hl; omega
        have := fin h
        rw [e1] at this ⊢
        exact this
  unfold round_Round.f
  have hz := wide_Zero_eq hh hl
  rw [hWW, decide_eq_false (by omega)] at hz
  have hlen := wide_Len_ev hh hl
  rw [hWW] at hlen
  rw [emx]
  have e1 : wrap64 (blen W - 53) = blen W - 53 := w64 (by omega) (by omega)
  have e2 : wrap64 (E + (blen W - 53)) = E + (blen W - 53) := w64 (by omega) (by omega)
  by_cases hs : E + (blen W - 53) < -1074
  · obtain ⟨b, f, ev, rb⟩ := main (-1074 - E) (by omega) (by omega) (.inl (by omega)) (by omega) (by omega)
    refine ⟨b, f, Ev.call hz (Ev.neg (by decide) (Ev.bind hlen (Ev.bind hlen ?_))), rb⟩
    rw [e1, e2, ht, w64 (x := -1074 - E) (by omega) (by omega)]
    exact Ev.pos hs ev
  · obtain ⟨b, f, ev, rb⟩ := main (blen W - 53) (by omega) (by omega) (.inr rfl) (by omega) (by omega)
    refine ⟨b, f, Ev.call hz (Ev.neg (by decide) (Ev.bind hlen (Ev.bind hlen ?_))), rb⟩
    rw [e1, e2, ht]
    exact Ev.neg hs ev
theorem round_Round_zero (neg : Bool) (E : Int) : Ev (fun k => round_Round.f k neg 0 0 E false) (signed neg 0, 0) := by
  have U0 : U 0 := ⟨by decide, by decide⟩
  unfold round_Round.f
  refine Ev.call (wide_Zero_eq U0 U0) (Ev.pos (by decide) (Ev.neg (by decide) (Ev.call (word_Make_eq neg (by decide) (by decide) U0) ?_)))
  exact Ev.now _



theorem tiny_iff {W E : Int} {x : Rat} (hW : 0 < W) (lo : (W : Rat) * pw E ≤ x) (hi : x < (W + 1 : Int) * pw E) : x < pw (-1022) ↔ E + blen W ≤ -1022 := by
  obtain ⟨bl1, bl2, bl3⟩ := blen_pos hW
  have hxl : pw (blen W - 1 + E) ≤ x := by
    refine Rat.le_trans ?_ lo
    rw [pw_add, pw_p2 (a := blen W - 1) (by omega)]
    exact mul_pw_le.mpr bl2
  have hxr : x < pw (blen W + E) := by
    refine Std.lt_of_lt_of_le hi ?_
    rw [pw_add, pw_p2 (a := blen W) (by omega)]
    exact mul_pw_le.mpr (by omega)
  constructor
  · intro h
    exact Decidable.byContradiction fun hc => by
      have := pw_mono (show -1022 ≤ blen W - 1 + E from by omega)
      grind
  · intro h
    exact Std.lt_of_lt_of_le hxr (pw_mono (by omega))
/-- Two numbers between the same neighbours, far apart, are rounded alike. -/
theorem RB.near {W E : Int} {x y : Rat} {b f : Int} (hW : 0 < W) (h54 : 54 ≤ blen W) (hx : (W : Rat) * pw E < x ∧ x < (W + 1 : Int) * pw E) (hy : (W : Rat) * pw E < y ∧ y < (W + 1 : Int) * pw E) (h : RB x b f) : RB y b f := by
  have key : ∀ d, 0 < d → -1074 ≤ E + d → blen W - 53 ≤ d → (E + d = -1074 ∨ d = blen W - 53) → RB y b f := by
    intro d h1 h2 h3 h4
    obtain ⟨rx, ex⟩ := rup_rnd (more := true) hW h1 h2 h3 h4 (fun h => by cases h) (fun _ => hx)
    obtain ⟨ry, ey⟩ := rup_rnd (more := true) hW h1 h2 h3 h4 (fun h => by cases h) (fun _ => hy)
    obtain ⟨q, n, hr, rfl, rfl⟩ := h.ex
    obtain ⟨rfl, rfl⟩ := hr.unique rx
    refine ⟨_, _, ry, rfl, ?_⟩
    have nx : ¬ x = (rup W d true : Rat) * pw (E + d) := fun h => by have := (ex.mp h).2; cases this
    have ny : ¬ y = (rup W d true : Rat) * pw (E + d) := fun h => by have := (ey.mp h).2; cases this
    have t : x < pw (-1022) ↔ y < pw (-1022) := by rw [tiny_iff hW (Rat.le_of_lt hx.1) hx.2, tiny_iff hW (Rat.le_of_lt hy.1) hy.2]
    rw [if_neg nx, if_neg ny]
    simp only [t]
  by_cases c : E + blen W - 53 < -1074
  · exact key (-1074 - E) (by omega) (by omega) (by omega) (.inl (by omega))
  · exact key (blen W - 53) (by omega) (by omega) (by omega) (.inr rfl)

/-- The pattern without its sign; the sign; the value of a number. -/
def mag (a : Int) : Int := a % 9223372036854775808
def neg (a : Int) : Bool := decide (9223372036854775808 ≤ a)
def fin (a : Int) : Prop := mag a < INF
def val (a : Int) : Rat := if neg a then -vm (mag a) else vm (mag a)
instance (a : Int) : Decidable (fin a) := by unfold fin; exact inferInstance

theorem mag_lt {a : Int} : 0 ≤ mag a ∧ mag a < 9223372036854775808 := by unfold mag; omega
theorem mag_signed {s : Bool} {m : Int} (h0 : 0 ≤ m) (h1 : m < 9223372036854775808) : mag (signed s m) = m := by unfold mag signed; cases s <;> simp <;> omega
theorem neg_signed {s : Bool} {m : Int} (h0 : 0 ≤ m) (h1 : m < 9223372036854775808) : neg (signed s m) = s := by
  unfold neg signed
  cases s
  · simp; omega
  · simp; omega
theorem signed_eta {a : Int} (h : U a) : signed (neg a) (mag a) = a := by
  obtain ⟨h0, h1⟩ := h
  unfold signed neg mag
  by_cases c : 9223372036854775808 ≤ a
  · simp [c]; omega
  · simp [c]; omega
theorem U_signed {s : Bool} {m : Int} (h0 : 0 ≤ m) (h1 : m < 9223372036854775808) : U (signed s m) := by
  unfold U signed; cases s <;> simp <;> omega
theorem val_signed {s : Bool} {m : Int} (h0 : 0 ≤ m) (h1 : m < 9223372036854775808) : val (signed s m) = if s then -vm m else vm m := by
  unfold val; rw [mag_signed h0 h1, neg_signed h0 h1]
theorem val_zero_iff {a : Int} : val a = 0 ↔ mag a = 0 := by
  unfold val
  have h0 := (mag_lt (a := a)).1
  constructor
  · intro h
    by_cases hm : mag a = 0
    · exact hm
    · have := vm_pos (m := mag a) (by omega)
      cases hn : neg a <;> simp [hn] at h <;> grind
  · intro h
    rw [h, vm_zero]
    cases neg a <;> simp
theorem val_abs (a : Int) : vm (mag a) = if val a < 0 then -val a else val a := by
  have h0 := vm_nonneg (mag_lt (a := a)).1
  unfold val
  cases neg a <;> simp <;> grind

/-- The magnitude of a rational number. -/
def rabs (x : Rat) : Rat := if x < 0 then -x else x
theorem rabs_nonneg (x : Rat) : 0 ≤ rabs x := by unfold rabs; grind
theorem rabs_neg (x : Rat) : rabs (-x) = rabs x := by unfold rabs; grind
theorem rabs_mul (X Y : Rat) : rabs (X * Y) = rabs X * rabs Y := by
  unfold rabs
  by_cases c1 : X < 0 <;> by_cases c2 : Y < 0
  · have := Rat.mul_pos (show 0 < -X by grind) (show 0 < -Y by grind)
    rw [if_pos c1, if_pos c2, if_neg (by grind)]; grind
  · have := Rat.mul_nonneg (show 0 ≤ -X by grind) (show 0 ≤ Y by grind)
    rw [if_pos c1, if_neg c2]
    by_cases c3 : X * Y < 0
    · rw [if_pos c3]; grind
    · rw [if_neg c3]; grind
  · have := Rat.mul_nonneg (show 0 ≤ X by grind) (show 0 ≤ -Y by grind)
    rw [if_neg c1, if_pos c2]
    by_cases c3 : X * Y < 0
    · rw [if_pos c3]; grind
    · rw [if_neg c3]; grind
  · have := Rat.mul_nonneg (show 0 ≤ X by grind) (show 0 ≤ Y by grind)
    rw [if_neg c1, if_neg c2, if_neg (by grind)]
theorem rabs_val (a : Int) : rabs (val a) = vm (mag a) := (val_abs a).symm

/-- A number, rounded: the pattern and the flags; z: the sign of a zero. -/
structure Rd (x : Rat) (z : Bool) (r f : Int) : Prop where
  zero : x = 0 → r = signed z 0 ∧ f = 0
  num : x ≠ 0 → ∃ m, RB (rabs x) m f ∧ r = signed (decide (x < 0)) m

theorem Rd.unique {x : Rat} {z : Bool} {r f r' f' : Int} (h : Rd x z r f) (h' : Rd x z r' f') : r = r' ∧ f = f' := by
  by_cases hx : x = 0
  · obtain ⟨rfl, rfl⟩ := h.zero hx
    obtain ⟨rfl, rfl⟩ := h'.zero hx
    exact ⟨rfl, rfl⟩
  · obtain ⟨m, h1, rfl⟩ := h.num hx
    obtain ⟨m', h1', rfl⟩ := h'.num hx
    obtain ⟨rfl, rfl⟩ := h1.unique h1'
    exact ⟨rfl, rfl⟩
theorem Rd.range {x : Rat} {z : Bool} {r f : Int} (h : Rd x z r f) : U r ∧ mag r ≤ INF := by
  by_cases hx : x = 0
  · obtain ⟨rfl, _⟩ := h.zero hx
    exact ⟨U_signed (by decide) (by decide), by rw [mag_signed (by decide) (by decide)]; decide⟩
  · obtain ⟨m, h1, rfl⟩ := h.num hx
    have := h1.range
    have hI : INF < 9223372036854775808 := by decide
    exact ⟨U_signed this.1 (by omega), by rw [mag_signed this.1 (by omega)]; exact this.2⟩
/-- A number that is a pattern's is rounded to it, if it isn't zero. -/
theorem Rd.self {a : Int} (ha : U a) (hf : fin a) (h0 : mag a ≠ 0) (z : Bool) : Rd (val a) z a 0 := by
  have hv : val a ≠ 0 := fun h => h0 (val_zero_iff.mp h)
  have hm := (mag_lt (a := a)).1
  refine ⟨fun h => absurd h hv, fun _ => ⟨mag a, ?_, ?_⟩⟩
  · rw [rabs_val]; exact RB.self (by omega) hf
  · have e : decide (val a < 0) = neg a := by
      have := vm_pos (m := mag a) (by omega)
      unfold val
      cases neg a <;> simp <;> grind
    rw [e, signed_eta ha]
/-- Where nothing was lost, the pattern is the number. -/
theorem Rd.exact {x : Rat} {z : Bool} {r : Int} (h : Rd x z r 0) : val r = x ∧ fin r := by
  have hI : INF < 9223372036854775808 := by decide
  by_cases hx : x = 0
  · obtain ⟨rfl, _⟩ := h.zero hx
    refine ⟨?_, ?_⟩
    · rw [val_signed (by decide) (by decide), vm_zero, hx]; cases z <;> simp
    · unfold fin; rw [mag_signed (by decide) (by decide)]; decide
  · obtain ⟨m, h1, rfl⟩ := h.num hx
    have hr := h1.range
    obtain ⟨q, n, hq, e1, e2⟩ := h1.ex
    by_cases c : enc q n < INF
    · rw [if_pos c] at e1 e2
      have e3 : rabs x = (n : Rat) * pw q := by
        by_cases c2 : rabs x = (n : Rat) * pw q
        · exact c2
        · rw [if_neg c2] at e2; split at e2 <;> omega
      subst e1
      refine ⟨?_, ?_⟩
      · rw [val_signed hr.1 (by omega), hq.val_enc, ← e3]
        unfold rabs
        by_cases c3 : x < 0
        · simp [c3]
        · simp [c3]
      · unfold fin; rw [mag_signed hr.1 (by omega)]; exact c
    · rw [if_neg c] at e2; omega

theorem U_0 : U 0 := ⟨by decide, by decide⟩
theorem U_1 : U 1 := ⟨by decide, by decide⟩
def isNan (a : Int) : Bool := decide (INF < mag a)
def QNAN : Int := 9221120237041090560
def nanF (a b : Int) : Int := if signals a || signals b then 16 else 0

theorem kind_mag (a : Int) : kindOf (a % 9223372036854775808) = kindOf (mag a) := rfl
theorem kind_nan {a : Int} : kindOf (mag a) = 5 ↔ isNan a = true := by rw [kind5 mag_lt.1]; unfold isNan INF; simp
theorem kind_inf {a : Int} : kindOf (mag a) = 4 ↔ mag a = INF := kind4 mag_lt.1
theorem kind_zero {a : Int} : kindOf (mag a) = 1 ↔ mag a = 0 := kind1
theorem signals_nan {a : Int} (h : signals a = true) : isNan a = true := by unfold signals at h; unfold isNan INF mag; simp at h ⊢; exact h.1
theorem fin_nan {a : Int} (h : fin a) : isNan a = false := by unfold fin at h; unfold isNan; simp; omega
theorem expo_mono {m m' : Int} (h0 : 0 ≤ m) (h : m ≤ m') : expo m ≤ expo m' := by unfold expo; grind
theorem fin_expo {a : Int} (h : fin a) : -1074 ≤ expo (mag a) ∧ expo (mag a) ≤ 971 := by
  have h0 := (mag_lt (a := a)).1
  unfold fin INF at h
  unfold expo
  split <;> omega
theorem wl64 {m : Int} (h0 : 0 ≤ m) (h1 : m < 18446744073709551616) : wide_Wide_Left.f 0 m 64 = some (m, 0) := by
  obtain ⟨a, b, e, u1, u2, ev⟩ := wide_Left_eq (h := 0) (l := m) (n := 64) U_0 ⟨h0, h1⟩ (by decide)
  rw [e]
  have : wv m 0 = wv a b := by
    rw [ev, p2_64]
    unfold wv; omega
  obtain ⟨rfl, rfl⟩ := wv_inj ⟨h0, h1⟩ U_0 u1 u2 this
  rfl

/-- Signs and magnitudes of a sum. -/
theorem val_eq (a : Int) : val a = (if neg a then -1 else 1) * vm (mag a) := by unfold val; cases neg a <;> simp <;> grind


theorem neg_def (a : Int) : decide (9223372036854775808 ≤ a) = neg a := rfl
theorem make_inf (s : Bool) : word_Make.f s 2047 0 = some (signed s INF) := by
  rw [word_Make_eq s (by decide) (by decide) U_0]; rfl
/-- What Parts answers of a number, zero or not. -/
theorem Parts_fin {a : Int} (ha : U a) (fa : fin a) : ∃ m e, Ev (fun k => word_Parts.f k a) (m, e) ∧ 0 ≤ m ∧ m < 9007199254740992 ∧ -1074 ≤ e ∧ e ≤ 971 ∧ vm (mag a) = (m : Rat) * pw e ∧ (m = 0 ↔ mag a = 0) := by
  have h0 := (mag_lt (a := a)).1
  by_cases z : mag a = 0
  · refine ⟨0, 0, word_Parts_none ha (.inl z), by decide, by decide, by decide, by decide, ?_, by simp [z]⟩
    rw [z, vm_zero]; grind
  · have := fin_expo fa
    have hp := mant_pos (m := mag a) (by omega)
    exact ⟨mant (mag a), expo (mag a), word_Parts_ev ha (show 0 < mag a by omega) fa, by omega, mant_lt, this.1, this.2, rfl, by constructor <;> intro h <;> omega⟩
theorem nan_or {a b : Int} (h : ¬ (isNan a || isNan b) = true) : (isNan a || isNan b) = false ∧ isNan a = false ∧ isNan b = false := by
  cases h1 : isNan a <;> cases h2 : isNan b <;> rw [h1, h2] at h <;> simp at h ⊢
theorem fin_of {a : Int} (h1 : isNan a = false) (h2 : mag a ≠ INF) : fin a := by
  unfold isNan at h1; unfold fin; simp at h1; omega
theorem not_inf {a : Int} (h : fin a) : mag a ≠ INF := by unfold fin at h; omega
/-- The flags are small. -/
theorem RB.flags {x : Rat} {b f : Int} (h : RB x b f) : 0 ≤ f ∧ f ≤ 16 := by
  obtain ⟨q, n, _, _, rfl⟩ := h.ex
  split
  · split
    · omega
    · split <;> omega
  · omega
theorem Rd.flags {x : Rat} {z : Bool} {r f : Int} (h : Rd x z r f) : 0 ≤ f ∧ f ≤ 16 := by
  by_cases hx : x = 0
  · have := (h.zero hx).2; omega
  · obtain ⟨m, rb, _⟩ := h.num hx; exact rb.flags
theorem nanF_le (a b : Int) : 0 ≤ nanF a b ∧ nanF a b ≤ 16 := by unfold nanF; split <;> omega

theorem INF_lt : 0 ≤ INF ∧ INF < 9223372036854775808 := by decide
def sgd (s : Bool) (X : Int) : Int := if s then -X else X
theorem Rd.any {x : Rat} {z z' : Bool} {r f : Int} (h : Rd x z r f) (hx : x ≠ 0) : Rd x z' r f := ⟨fun h => absurd h hx, h.num⟩
theorem int_pw_neg {S E : Int} : (S : Rat) * pw E < 0 ↔ S < 0 := by
  have := mul_pw_lt (a := S) (b := 0) (e := E)
  rw [← this]; simp
theorem int_pw_zero {S E : Int} : (S : Rat) * pw E = 0 ↔ S = 0 := by
  constructor
  · intro h; exact mul_pw_inj (a := S) (b := 0) (e := E) (by rw [h]; simp)
  · intro h; rw [h]; simp
theorem rabs_sgd (s : Bool) {X E : Int} (hX : 0 ≤ X) : rabs ((sgd s X : Rat) * pw E) = (X : Rat) * pw E := by
  have h0 : 0 ≤ (X : Rat) * pw E := by have := mul_pw_le (a := 0) (b := X) (e := E); simpa using this.mpr hX
  have e1 : rabs ((X : Rat) * pw E) = (X : Rat) * pw E := by unfold rabs; rw [if_neg (by grind)]
  unfold sgd
  cases s
  · exact e1
  · show rabs (((-X : Int) : Rat) * pw E) = _
    have e2 : ((-X : Int) : Rat) * pw E = -((X : Rat) * pw E) := by push_cast; grind
    rw [e2, rabs_neg, e1]
/-- The parts as the reference's Mul and Div take them. -/
theorem val_mant (a : Int) : val a = (sgd (neg a) (mant (mag a)) : Rat) * pw (expo (mag a)) := by
  rw [val_eq]; unfold vm sgd; cases neg a <;> simp <;> grind
theorem mant_U (a : Int) : U (mant (mag a)) := ⟨mant_nonneg mag_lt.1, by have := mant_lt (m := mag a); omega⟩

theorem soft_nan_step {l : List Int} {i n f : Int} {s : Bool} {r : Int × Int × Bool} (h0 : 0 ≤ i) (h1 : i < n) (h2 : i < (l.length : Int)) (hn : n ≤ 1000) (hU : U (rd l i))
    (h : Ev (fun k => soft_nan.l0 k (if signals (rd l i) then 16 else f) (s || isNan (rd l i)) l n (i + 1)) r) : Ev (fun k => soft_nan.l0 k f s l n i) r := by
  refine Ev.succ ?_
  simp only [soft_nan.l0]
  rw [w64 (x := i + 1) (by omega) (by omega)]
  refine Ev.pos h1 (Ev.pos h0 (Ev.pos h2 (Ev.bind (word_Kind_ev hU) ?_)))
  rw [kind_mag]
  by_cases hk : kindOf (mag (rd l i)) = 5
  · refine Ev.pos hk (Ev.bind (word_Signals_ev hU) ?_)
    rw [kind_nan.mp hk] at h
    by_cases hs : signals (rd l i) = true
    · rw [if_pos hs] at h
      refine Ev.pos hs ?_
      rw [Bool.or_true] at h; exact h
    · rw [if_neg hs] at h
      refine Ev.neg hs ?_
      rw [Bool.or_true] at h; exact h
  · refine Ev.neg hk ?_
    have hn : isNan (rd l i) = false := by
      cases hc : isNan (rd l i)
      · rfl
      · exact absurd (kind_nan.mpr hc) hk
    have hs : signals (rd l i) = false := by
      cases hc : signals (rd l i)
      · rfl
      · have := signals_nan hc; rw [hn] at this; cases this
    rw [hn, hs] at h
    simpa using h
theorem soft_nan_end {l : List Int} {i n f : Int} {s : Bool} (h1 : ¬ i < n) : Ev (fun k => soft_nan.l0 k f s l n i) (QNAN, f, s) := by
  refine Ev.succ ?_
  simp only [soft_nan.l0]
  exact Ev.neg h1 (Ev.now _)
theorem soft_nan2 {a b : Int} (ha : U a) (hb : U b) : Ev (fun k => soft_nan.f k [a, b]) (QNAN, nanF a b, isNan a || isNan b) := by
  unfold soft_nan.f
  refine soft_nan_step (by decide) (by simp) (by simp) (by simp) ha ?_
  refine soft_nan_step (by decide) (by simp) (by simp) (by simp) hb ?_
  have e : (if signals (rd [a, b] (0 + 1)) then (16 : Int) else if signals (rd [a, b] 0) then 16 else 0) = nanF a b := by
    show (if signals b then (16 : Int) else if signals a then 16 else 0) = nanF a b
    unfold nanF
    cases signals a <;> cases signals b <;> rfl
  have e2 : (false || isNan (rd [a, b] 0) || isNan (rd [a, b] (0 + 1))) = (isNan a || isNan b) := by
    show (false || isNan a || isNan b) = _
    rw [Bool.false_or]
  rw [e, e2]
  exact soft_nan_end (by simp)



theorem bits_Mul64_eq {a b : Int} (ha : U a) (hb : U b) : bits_Mul64.f a b = some (a * b / 18446744073709551616, a * b % 18446744073709551616) := by
  have ha' := ha
  have hb' := hb
  obtain ⟨a0, a1⟩ := ha
  obtain ⟨b0, b1⟩ := hb
  unfold bits_Mul64.f
  rw [u64_and32 a0 a1, u64_and32 b0 b1]
  have hA : 0 ≤ a / 4294967296 ∧ a / 4294967296 ≤ 4294967295 := by omega
  have hB : 0 ≤ b / 4294967296 ∧ b / 4294967296 ≤ 4294967295 := by omega
  have hC : 0 ≤ a % 4294967296 ∧ a % 4294967296 ≤ 4294967295 := by omega
  have hD : 0 ≤ b % 4294967296 ∧ b % 4294967296 ≤ 4294967295 := by omega
  have e : a * b = (a / 4294967296 * (b / 4294967296)) * 18446744073709551616 + (a / 4294967296 * (b % 4294967296) + a % 4294967296 * (b / 4294967296)) * 4294967296 + a % 4294967296 * (b % 4294967296) := by
    have e1 : a = a / 4294967296 * 4294967296 + a % 4294967296 := by omega
    have e2 : b = b / 4294967296 * 4294967296 + b % 4294967296 := by omega
    generalize a / 4294967296 = x at *
    generalize a % 4294967296 = y at *
    generalize b / 4294967296 = z at *
    generalize b % 4294967296 = w at *
    subst e1 e2
    grind
  obtain ⟨p0, p1⟩ := mul_bound hA.1 hB.1 hA.2 hB.2
  obtain ⟨q0, q1⟩ := mul_bound hA.1 hD.1 hA.2 hD.2
  obtain ⟨r0, r1⟩ := mul_bound hC.1 hB.1 hC.2 hB.2
  obtain ⟨s0, s1⟩ := mul_bound hC.1 hD.1 hC.2 hD.2
  have hm : a * b < 340282366920938463463374607431768211456 := by
    have := (mul_bound a0 b0 (show a ≤ 18446744073709551615 by omega) (show b ≤ 18446744073709551615 by omega)).2
    omega
  have hm0 : 0 ≤ a * b := Int.mul_nonneg a0 b0
  rw [wu64_mod (a * b)]
  generalize a * b = X at *
  generalize a / 4294967296 * (b / 4294967296) = P at *
  generalize a / 4294967296 * (b % 4294967296) = Q at *
  generalize a % 4294967296 * (b / 4294967296) = R at *
  generalize a % 4294967296 * (b % 4294967296) = S at *
  rw [wu64 (x := S) (by omega) (by omega), wu64 (x := Q) (by omega) (by omega), wu64 (x := Q + S / 4294967296) (by omega) (by omega), u64_and32 (by omega) (by omega),
    wu64 (x := R) (by omega) (by omega), wu64 (x := P) (by omega) (by omega), wu64 (x := P + (Q + S / 4294967296) / 4294967296) (by omega) (by omega),
    wu64 (x := (Q + S / 4294967296) % 4294967296 + R) (by omega) (by omega), wu64 (by omega) (by omega)]
  congr 2
  omega
theorem wide_Mul_eq {a b : Int} (ha : U a) (hb : U b) : ∃ h l, wide_Mul.f a b = some (h, l) ∧ U h ∧ U l ∧ wv h l = a * b := by
  unfold wide_Mul.f
  rw [bits_Mul64_eq ha hb]
  obtain ⟨a0, a1⟩ := ha
  obtain ⟨b0, b1⟩ := hb
  have hm : a * b < 340282366920938463463374607431768211456 := by
    have := (mul_bound a0 b0 (show a ≤ 18446744073709551615 by omega) (show b ≤ 18446744073709551615 by omega)).2
    omega
  have hm0 : 0 ≤ a * b := Int.mul_nonneg a0 b0
  simp only [Option.bind_some]
  generalize a * b = X at *
  exact ⟨_, _, rfl, ⟨by omega, by omega⟩, ⟨by omega, by omega⟩, by unfold wv; omega⟩


theorem wide_Cmp_ev {h l h' l' : Int} (hh : U h) (hl : U l) (hh' : U h') (hl' : U l') : Ev (fun k => wide_Wide_Cmp.f k h l h' l') (sgn (wv h l - wv h' l')) := by
  obtain ⟨x0, x1⟩ := hh; obtain ⟨x2, x3⟩ := hl; obtain ⟨x4, x5⟩ := hh'; obtain ⟨x6, x7⟩ := hl'
  have j0 : ∀ lt : Bool, (lt = true ↔ wv h l < wv h' l') → Ev (fun k => wide_Wide_Cmp.j0 k lt h l h' l') (sgn (wv h l - wv h' l')) := by
    intro lt hlt
    refine Ev.succ ?_
    simp only [wide_Wide_Cmp.j0]
    cases lt
    · have n1 : ¬ wv h l < wv h' l' := fun hc => by have := hlt.mpr hc; cases this
      refine Ev.neg (by decide) ?_
      by_cases c : (h == h' && l == l') = true
      · have c' : h = h' ∧ l = l' := by simpa using c
        obtain ⟨rfl, rfl⟩ := c'
        refine Ev.pos c ?_
        unfold sgn; rw [if_neg (by omega), if_pos (by omega)]
        exact Ev.now _
      · refine Ev.neg c ?_
        have c' : ¬ (h = h' ∧ l = l') := by simpa using c
        unfold sgn wv at *
        rw [if_neg (by omega), if_neg (by omega)]
        exact Ev.now _
    · have n1 := hlt.mp rfl
      refine Ev.pos rfl ?_
      unfold sgn; rw [if_pos (by omega)]
      exact Ev.now _
  unfold wide_Wide_Cmp.f
  by_cases c : h < h'
  · exact Ev.pos c (j0 true (by simp; unfold wv; omega))
  · refine Ev.neg c ?_
    by_cases c2 : h = h'
    · exact Ev.pos c2 (j0 _ (by simp; unfold wv; omega))
    · exact Ev.neg c2 (j0 false (by simp; unfold wv; omega))
theorem sgn_le {x : Int} : sgn x ≤ 0 ↔ x ≤ 0 := by unfold sgn; constructor <;> intro h <;> revert h <;> split <;> (try split) <;> omega


/-- The root of v, rounded: W 2^E and (W+1) 2^E are its neighbours. -/
def SqX (v : Rat) (m f : Int) : Prop := ∃ W E : Int, 0 < W ∧ 54 ≤ blen W ∧ ((W : Rat) * pw E) * ((W : Rat) * pw E) ≤ v ∧ v < ((W + 1 : Int) * pw E) * ((W + 1 : Int) * pw E) ∧
  (((W : Rat) * pw E) * ((W : Rat) * pw E) = v → RB ((W : Rat) * pw E) m f) ∧ (((W : Rat) * pw E) * ((W : Rat) * pw E) ≠ v → ∀ y, (W : Rat) * pw E < y → y < (W + 1 : Int) * pw E → RB y m f)

theorem sq_lt {a b : Rat} (ha : 0 ≤ a) (hb : 0 ≤ b) (h : a * a < b * b) : a < b := by
  refine Decidable.byContradiction fun hc => ?_
  have h1 : b ≤ a := by grind
  have h2 := Rat.mul_le_mul_of_nonneg_right h1 hb
  have h3 := Rat.mul_le_mul_of_nonneg_left h1 ha
  grind
theorem SqX.unique {v : Rat} {m f m' f' : Int} (h : SqX v m f) (h' : SqX v m' f') : m = m' ∧ f = f' := by
  obtain ⟨W, E, w0, w1, lo, hi, ex, ne⟩ := h
  obtain ⟨W', E', w0', w1', lo', hi', ex', ne'⟩ := h'
  have p : ∀ {W E : Int}, 0 < W → 0 < (W : Rat) * pw E := by
    intro W E hW
    have := mul_pw_lt (a := 0) (b := W) (e := E)
    simpa using this.mpr hW
  have q1 := p (E := E) w0
  have q2 := p (E := E') w0'
  have q3 := p (E := E) (W := W + 1) (by omega)
  have q4 := p (E := E') (W := W' + 1) (by omega)
  generalize (W : Rat) * pw E = a at *
  generalize (W' : Rat) * pw E' = a' at *
  generalize ((W + 1 : Int) : Rat) * pw E = b at *
  generalize ((W' + 1 : Int) : Rat) * pw E' = b' at *
  have h1 : a < b := sq_lt (by grind) (by grind) (by grind)
  have h2 : a < b' := sq_lt (by grind) (by grind) (by grind)
  have h3 : a' < b := sq_lt (by grind) (by grind) (by grind)
  have h4 : a' < b' := sq_lt (by grind) (by grind) (by grind)
  by_cases c : a * a = v
  · by_cases c' : a' * a' = v
    · have e : a = a' := by
        have l1 : ¬ a < a' := fun h => by have := Rat.mul_lt_mul_of_pos_right h q2; have := Rat.mul_lt_mul_of_pos_left h q1; grind
        have l2 : ¬ a' < a := fun h => by have := Rat.mul_lt_mul_of_pos_right h q1; have := Rat.mul_lt_mul_of_pos_left h q2; grind
        grind
      subst e
      exact (ex c).unique (ex' c')
    · exact (ex c).unique (ne' c' a (sq_lt (by grind) (by grind) (by grind)) h2)
  · by_cases c' : a' * a' = v
    · exact (ne c a' (sq_lt (by grind) (by grind) (by grind)) h3).unique (ex' c')
    · -- a number between both pairs of neighbours
      have : ∃ y, a < y ∧ y < b ∧ a' < y ∧ y < b' := by
        have mid : ∀ {u w : Rat}, u < w → u < (u + w) / 2 ∧ (u + w) / 2 < w := by intro u w h; constructor <;> grind
        by_cases c1 : a ≤ a' <;> by_cases c2 : b ≤ b'
        · have := mid h3; exact ⟨(a' + b) / 2, by grind, by grind, by grind, by grind⟩
        · have := mid h4; exact ⟨(a' + b') / 2, by grind, by grind, by grind, by grind⟩
        · have := mid h1; exact ⟨(a + b) / 2, by grind, by grind, by grind, by grind⟩
        · have := mid h2; exact ⟨(a + b') / 2, by grind, by grind, by grind, by grind⟩
      obtain ⟨y, y1, y2, y3, y4⟩ := this
      exact (ne c y y1 y2).unique (ne' c' y y3 y4)

theorem wide_Sqrt_loop {h l : Int} (hh : U h) (hl : U l) (n : Nat) : n ≤ 64 → ∀ root : Int, 0 ≤ root → root % 2 ^ n = 0 → root + 2 ^ n ≤ 18446744073709551616 → root * root ≤ wv h l → wv h l < (root + 2 ^ n) * (root + 2 ^ n) →
    ∃ r, Ev (fun k => wide_Wide_Sqrt.l0 k root ((n : Int) - 1) h l) (r, decide (r * r = wv h l)) ∧ 0 ≤ r ∧ r < 18446744073709551616 ∧ r * r ≤ wv h l ∧ wv h l < (r + 1) * (r + 1) := by
  induction n with
  | zero =>
    intro _ root r0 rm r1 lo hi
    simp only [Int.pow_zero] at r1 hi
    obtain ⟨a, b, ew, u1, u2, ev⟩ := wide_Mul_eq (a := root) (b := root) ⟨r0, by omega⟩ ⟨r0, by omega⟩
    refine ⟨root, Ev.succ ?_, r0, by omega, lo, hi⟩
    simp only [wide_Wide_Sqrt.l0]
    refine Ev.neg (by omega) (Ev.call ew ?_)
    dsimp only
    have e : (a == h && b == l) = decide (root * root = wv h l) := by
      rw [Bool.eq_iff_iff]; simp
      rw [← ev]
      constructor
      · rintro ⟨rfl, rfl⟩; rfl
      · intro hc; exact wv_inj u1 u2 hh hl hc
    rw [e]
    exact Ev.now _
  | succ m ih =>
    intro hn root r0 rm r1 lo hi
    have hp : (0 : Int) < 2 ^ m := Int.pow_pos (by decide)
    have hs : (2 : Int) ^ (m + 1) = 2 * 2 ^ m := by rw [Int.pow_succ, Int.mul_comm]
    have es : shl .u64 1 (m : Int) = 2 ^ m := by
      rw [shl_u64 (by omega) (by omega), Int.one_mul]
      exact Int.emod_eq_of_lt (Int.le_of_lt hp) (by show (2 : Int) ^ m < _; omega)
    have eo : Go.bits .or .u64 root (2 ^ m) = root + 2 ^ m := u64_or (m + 1) r0 rm (by omega) (by omega) (by omega) (by omega)
    have e0 : ((m + 1 : Nat) : Int) - 1 = (m : Int) := by omega
    have rm' : root % 2 ^ m = 0 := by
      have := Int.emod_emod_of_dvd root (⟨2, by rw [hs, Int.mul_comm]⟩ : (2 : Int) ^ m ∣ 2 ^ (m + 1))
      rw [rm] at this; rw [← this]; simp
    obtain ⟨a, b, ew, u1, u2, ev⟩ := wide_Mul_eq (a := root + 2 ^ m) (b := root + 2 ^ m) ⟨by omega, by omega⟩ ⟨by omega, by omega⟩
    have kc := wide_Cmp_ev u1 u2 hh hl
    rw [ev] at kc
    have le := sgn_le (x := (root + 2 ^ m) * (root + 2 ^ m) - wv h l)
    by_cases c : (root + 2 ^ m) * (root + 2 ^ m) - wv h l ≤ 0
    · obtain ⟨r, er, rest⟩ := ih (by omega) (root + 2 ^ m) (by omega) (by rw [Int.add_emod, rm']; simp) (by omega) (by omega) (by rw [show root + 2 ^ m + 2 ^ m = root + 2 ^ (m + 1) from by omega]; exact hi)
      refine ⟨r, Ev.succ ?_, rest⟩
      simp only [wide_Wide_Sqrt.l0]
      rw [e0, es, eo, w64 (x := (m : Int) - 1) (by omega) (by omega)]
      exact Ev.pos (by omega) (Ev.pos (by omega) (Ev.call ew (Ev.bind kc (Ev.pos (le.mpr c) er))))
    · obtain ⟨r, er, rest⟩ := ih (by omega) root r0 rm' (by omega) lo (by omega)
      refine ⟨r, Ev.succ ?_, rest⟩
      simp only [wide_Wide_Sqrt.l0]
      rw [e0, es, eo, w64 (x := (m : Int) - 1) (by omega) (by omega)]
      exact Ev.pos (by omega) (Ev.pos (by omega) (Ev.call ew (Ev.bind kc (Ev.neg (fun hc => c (le.mp hc)) er))))
theorem wide_Sqrt_ev {h l : Int} (hh : U h) (hl : U l) : ∃ r, Ev (fun k => wide_Wide_Sqrt.f k h l) (r, decide (r * r = wv h l)) ∧ 0 ≤ r ∧ r < 18446744073709551616 ∧ r * r ≤ wv h l ∧ wv h l < (r + 1) * (r + 1) := by
  unfold wide_Wide_Sqrt.f
  have hw := wv_range hh hl
  have e : ((0 : Int) + 2 ^ 64) * (0 + 2 ^ 64) = 340282366920938463463374607431768211456 := by decide
  exact wide_Sqrt_loop hh hl 64 (by decide) 0 (by decide) (by decide) (by decide) (by omega) (by rw [e]; exact hw.2)

/-- From a whole root on: told by neighbours. -/
theorem SqX.of {A W E : Int} {v : Rat} {m f : Int} (hv : v = (A : Rat) * pw (2 * E)) (hW : 0 < W) (h54 : 54 ≤ blen W) (lo : W * W ≤ A) (hi : A < (W + 1) * (W + 1))
    (h0 : W * W = A → RB ((W : Rat) * pw E) m f) (h1 : W * W ≠ A → ∃ y, (W : Rat) * pw E < y ∧ y < (W + 1 : Int) * pw E ∧ RB y m f) : SqX v m f := by
  have sq : ∀ X : Int, ((X : Rat) * pw E) * ((X : Rat) * pw E) = ((X * X : Int) : Rat) * pw (2 * E) := by
    intro X
    rw [show 2 * E = E + E from by omega, pw_add]; push_cast; grind
  refine ⟨W, E, hW, h54, ?_, ?_, ?_, ?_⟩
  · rw [sq, hv]; exact mul_pw_le.mpr lo
  · rw [sq, hv]; exact mul_pw_lt.mpr hi
  · intro h; rw [sq, hv] at h; exact h0 (mul_pw_inj h)
  · intro h y y1 y2
    obtain ⟨z, z1, z2, rb⟩ := h1 (fun hc => h (by rw [sq, hv, hc]))
    exact RB.near hW h54 ⟨z1, z2⟩ ⟨y1, y2⟩ rb
theorem SqX.flags {v : Rat} {m f : Int} (h : SqX v m f) : 0 ≤ f ∧ f ≤ 16 ∧ 0 ≤ m ∧ m ≤ INF := by
  obtain ⟨W, E, w0, w1, lo, hi, ex, ne⟩ := h
  have rb : ∃ x, RB x m f := by
    by_cases c : ((W : Rat) * pw E) * ((W : Rat) * pw E) = v
    · exact ⟨_, ex c⟩
    · have h1 : (W : Rat) * pw E < ((W + 1 : Int) : Rat) * pw E := mul_pw_lt.mpr (by omega)
      refine ⟨((W : Rat) * pw E + ((W + 1 : Int) : Rat) * pw E) / 2, ne c _ ?_ ?_⟩ <;> grind
  obtain ⟨x, rb⟩ := rb
  have := rb.flags
  have := rb.range
  omega
def SqrtR (a r f : Int) : Prop :=
  if isNan a = true then r = QNAN ∧ f = (if signals a then 16 else 0)
  else if mag a = 0 ∨ a = INF then r = a ∧ f = 0
  else if neg a = true then r = QNAN ∧ f = 16
  else SqX (vm (mag a)) r f
theorem SqrtR.unique {a r f r' f' : Int} (h : SqrtR a r f) (h' : SqrtR a r' f') : r = r' ∧ f = f' := by
  unfold SqrtR at h h'
  by_cases c1 : isNan a = true
  · rw [if_pos c1] at h h'; omega
  · rw [if_neg c1] at h h'
    by_cases c2 : mag a = 0 ∨ a = INF
    · rw [if_pos c2] at h h'; omega
    · rw [if_neg c2] at h h'
      by_cases c3 : neg a = true
      · rw [if_pos c3] at h h'; omega
      · rw [if_neg c3] at h h'; exact h.unique h'
theorem SqrtR.flags {a r f : Int} (h : SqrtR a r f) : 0 ≤ f ∧ f ≤ 16 := by
  unfold SqrtR at h
  split at h
  · split at h <;> omega
  · split at h
    · omega
    · split at h
      · omega
      · have := h.flags; omega
theorem more_Sqrt_fin {a : Int} (ha : U a) (fa : fin a) (h0 : mag a ≠ 0) : ∃ r f, Ev (fun k => more_Sqrt.j0 k a false) (r, f) ∧ (neg a = true → r = QNAN ∧ f = 16) ∧ (neg a = false → SqX (vm (mag a)) r f) := by
  by_cases hn : neg a = true
  · refine ⟨QNAN, 16, Ev.succ ?_, fun _ => ⟨rfl, rfl⟩, fun h => by rw [hn] at h; cases h⟩
    simp only [more_Sqrt.j0]
    exact Ev.neg (by decide) (Ev.call (word_Neg_eq ha) (Ev.pos (by rw [neg_def]; exact hn) (Ev.now _)))
  · have hn' : neg a = false := by simpa using hn
    have pa := word_Parts_ev ha (show 0 < mag a by have := (mag_lt (a := a)).1; omega) fa
    obtain ⟨e1, e2⟩ := fin_expo fa
    have m0 := mant_pos (m := mag a) (by have := (mag_lt (a := a)).1; omega)
    have m1 := mant_lt (m := mag a)
    have hv : vm (mag a) = (mant (mag a) : Rat) * pw (expo (mag a)) := rfl
    have emag : a % 9223372036854775808 = mag a := rfl
    rw [emag] at pa
    generalize mant (mag a) = M at *
    generalize expo (mag a) = E at *
    have uM : U M := ⟨by omega, by omega⟩
    obtain ⟨b1, b2, b3⟩ := blen_pos m0
    have b4 : blen M ≤ 53 := blen_le (by decide) (by rw [show p2 53 = 9007199254740992 from by decide]; exact m1)
    have eW : wv 0 M = M := by unfold wv; omega
    have main : ∀ up, (up = 127 - blen M ∨ up = 126 - blen M) → (E - up) % 2 = 0 → ∃ r f, Ev (fun k => (wide_Wide_Left.f 0 M up).bind fun bt172 => ((wide_Wide_Sqrt.f k bt172.1 bt172.2).bind fun bt174 => ((round_Round.f k false 0 bt174.1 (wrap64 (Int.tdiv (wrap64 (E - up)) 2)) (!bt174.2)).bind fun bt176 => (some (bt176.1, bt176.2))))) (r, f) ∧ SqX (vm (mag a)) r f := by
      intro up hup hev
      have hb : M * p2 up < 170141183460469231731687303715884105728 := by
        have e : (170141183460469231731687303715884105728 : Int) = p2 127 := by decide
        have h1 : M * p2 up < p2 (blen M) * p2 up := Int.mul_lt_mul_of_pos_right b3 (p2_pos _)
        rw [← p2_add (by omega) (by omega)] at h1
        have h2 := p2_le (show blen M + up ≤ 127 by omega)
        omega
      have hlo : p2 125 ≤ M * p2 up := by
        have h1 : p2 (blen M - 1) * p2 up ≤ M * p2 up := Int.mul_le_mul_of_nonneg_right b2 (Int.le_of_lt (p2_pos _))
        rw [← p2_add (by omega) (by omega)] at h1
        have h2 := p2_le (show 125 ≤ blen M - 1 + up by omega)
        omega
      obtain ⟨h, l, el, u1, u2, ev⟩ := wide_Left_small (h := 0) (l := M) (n := up) U_0 uM (by omega) (by rw [eW]; omega)
      rw [eW] at ev
      obtain ⟨r, er, r0, r1, rlo, rhi⟩ := wide_Sqrt_ev u1 u2
      rw [ev] at er rlo rhi
      have r62 : 4611686018427387904 ≤ r := by
        refine Decidable.byContradiction fun hc => ?_
        have h1 : (r + 1) * (r + 1) ≤ 4611686018427387904 * 4611686018427387904 := Int.mul_le_mul (by omega) (by omega) (by omega) (by decide)
        have e : (4611686018427387904 : Int) * 4611686018427387904 = 21267647932558653966460912964485513216 := by decide
        have e2 : p2 125 = 42535295865117307932921825928971026432 := by decide
        omega
      have b54 : 54 ≤ blen r := by
        have h1 := blen_mono r62
        have h2 : blen 4611686018427387904 = 63 := blen_unique (by decide) (by decide) (by decide)
        omega
      have eD : wrap64 (Int.tdiv (wrap64 (E - up)) 2) = (E - up) / 2 := by
        rw [w64 (x := E - up) (by omega) (by omega)]
        have : Int.tdiv (E - up) 2 = (E - up) / 2 := Int.tdiv_eq_ediv_of_dvd (Int.dvd_of_emod_eq_zero hev)
        rw [this, w64 (by omega) (by omega)]
      have hvA : vm (mag a) = ((M * p2 up : Int) : Rat) * pw (2 * ((E - up) / 2)) := by
        rw [hv, show 2 * ((E - up) / 2) = E - up from by omega]
        have : pw E = (p2 up : Rat) * pw (E - up) := by rw [← pw_p2 (by omega), ← pw_add]; congr 1; omega
        rw [this]; push_cast; grind
      have hpos : 0 < r := by omega
      have eWr : wv 0 r = r := by unfold wv; omega
      have mid : ((r : Rat) * pw ((E - up) / 2) < ((2 * r + 1 : Int) : Rat) * pw ((E - up) / 2 - 1)) ∧ (((2 * r + 1 : Int) : Rat) * pw ((E - up) / 2 - 1) < ((r + 1 : Int) : Rat) * pw ((E - up) / 2)) := by
        have e := pw_pred ((E - up) / 2)
        have hp := pw_pos ((E - up) / 2 - 1)
        rw [← e]; push_cast
        constructor <;> grind
      by_cases c : r * r = M * p2 up
      · obtain ⟨m, f, ev2, rb⟩ := round_Round_ev false (h := 0) (l := r) (E := (E - up) / 2) U_0 ⟨r0, r1⟩ (by omega) (by omega) false (x := (r : Rat) * pw ((E - up) / 2)) (by rw [eWr]; exact hpos) (fun _ => by rw [eWr]) (fun h => by cases h)
        refine ⟨m, f, ?_, SqX.of hvA hpos b54 rlo rhi (fun _ => rb) (fun h => absurd c h)⟩
        rw [eD]
        refine Ev.call el (Ev.bind er ?_)
        dsimp only
        rw [decide_eq_true c]
        exact Ev.bind ev2 (Ev.now _)
      · obtain ⟨m, f, ev2, rb⟩ := round_Round_ev false (h := 0) (l := r) (E := (E - up) / 2) U_0 ⟨r0, r1⟩ (by omega) (by omega) true (x := ((2 * r + 1 : Int) : Rat) * pw ((E - up) / 2 - 1)) (by rw [eWr]; exact hpos) (fun h => by cases h) (fun _ => by rw [eWr]; exact ⟨mid, b54⟩)
        refine ⟨m, f, ?_, SqX.of hvA hpos b54 rlo rhi (fun h => absurd h c) (fun _ => ⟨_, mid.1, mid.2, rb⟩)⟩
        rw [eD]
        refine Ev.call el (Ev.bind er ?_)
        dsimp only
        rw [decide_eq_false c]
        exact Ev.bind ev2 (Ev.now _)
    have start : ∀ rf : Int × Int, Ev (fun k => if (Go.bits .and .i64 (wrap64 (E - (wrap64 (127 - blen M)))) 1) = 0 then ((wide_Wide_Left.f 0 M (wrap64 (127 - blen M))).bind fun bt172 => ((wide_Wide_Sqrt.f k bt172.1 bt172.2).bind fun bt174 => ((round_Round.f k false 0 bt174.1 (wrap64 (Int.tdiv (wrap64 (E - (wrap64 (127 - blen M)))) 2)) (!bt174.2)).bind fun bt176 => (some (bt176.1, bt176.2))))) else ((wide_Wide_Left.f 0 M (wrap64 ((wrap64 (127 - blen M)) - 1))).bind fun bt178 => ((wide_Wide_Sqrt.f k bt178.1 bt178.2).bind fun bt180 => ((round_Round.f k false 0 bt180.1 (wrap64 (Int.tdiv (wrap64 (E - (wrap64 ((wrap64 (127 - blen M)) - 1)))) 2)) (!bt180.2)).bind fun bt182 => (some (bt182.1, bt182.2)))))) rf →
        Ev (fun k => more_Sqrt.j0 k a false) rf := by
      intro rf h
      refine Ev.succ ?_
      simp only [more_Sqrt.j0]
      exact Ev.neg (by decide) (Ev.call (word_Neg_eq ha) (Ev.neg (by rw [neg_def]; exact hn) (Ev.bind pa (Ev.bind (bits_Len64_ev uM) h))))
    rw [w64 (x := 127 - blen M) (by omega) (by omega), w64 (x := 127 - blen M - 1) (by omega) (by omega)] at start
    have e1 : Go.bits .and .i64 (wrap64 (E - (127 - blen M))) 1 = (E - (127 - blen M)) % 2 := by
      rw [w64 (x := E - (127 - blen M)) (by omega) (by omega)]; exact i64_and 1 (by decide) _
    rw [e1] at start
    by_cases c : (E - (127 - blen M)) % 2 = 0
    · obtain ⟨r, f, ev, sq⟩ := main (127 - blen M) (.inl rfl) c
      exact ⟨r, f, start _ (Ev.pos c ev), fun h => absurd h hn, fun _ => sq⟩
    · obtain ⟨r, f, ev, sq⟩ := main (127 - blen M - 1) (.inr (by omega)) (by omega)
      exact ⟨r, f, start _ (Ev.neg c ev), fun h => absurd h hn, fun _ => sq⟩
/-- THE PROGRAM's ROOT. -/
theorem more_Sqrt_ev {a : Int} (ha : U a) : ∃ r f, Ev (fun k => more_Sqrt.f k a) (r, f) ∧ SqrtR a r f := by
  unfold SqrtR
  have hk := word_Kind_ev ha
  rw [kind_mag] at hk
  by_cases h : isNan a = true
  · refine ⟨QNAN, _, ?_, by rw [if_pos h]; exact ⟨rfl, rfl⟩⟩
    unfold more_Sqrt.f
    refine Ev.bind hk (Ev.pos (kind_nan.mpr h) (Ev.bind (word_Signals_ev ha) ?_))
    cases hs : signals a
    · exact Ev.neg (by decide) (Ev.now _)
    · exact Ev.pos rfl (Ev.now _)
  · have n5 : ¬ kindOf (mag a) = 5 := fun hh => h (kind_nan.mp hh)
    have start : ∀ r : Int × Int, Ev (fun k => more_Sqrt.j0 k a (decide (mag a = 0 ∨ a = INF))) r → Ev (fun k => more_Sqrt.f k a) r := by
      intro r hr
      unfold more_Sqrt.f
      refine Ev.bind hk (Ev.neg n5 (Ev.bind hk ?_))
      by_cases z : mag a = 0
      · rw [decide_eq_true (.inl z)] at hr
        exact Ev.pos (kind_zero.mpr z) hr
      · refine Ev.neg (fun hh => z (kind_zero.mp hh)) ?_
        have e : decide (mag a = 0 ∨ a = INF) = (a == 9218868437227405312) := by
          rw [Bool.eq_iff_iff]; simp [z, INF]
        rw [e] at hr
        exact hr
    by_cases c : mag a = 0 ∨ a = INF
    · refine ⟨a, 0, start _ (Ev.succ ?_), by rw [if_neg h, if_pos c]; exact ⟨rfl, rfl⟩⟩
      simp only [more_Sqrt.j0]
      exact Ev.pos (decide_eq_true c) (Ev.now _)
    · rw [decide_eq_false c] at start
      by_cases fa : fin a
      · obtain ⟨r, f, ev, h1, h2⟩ := more_Sqrt_fin ha fa (fun hh => c (.inl hh))
        refine ⟨r, f, start _ ev, ?_⟩
        rw [if_neg h, if_neg c]
        by_cases hn : neg a = true
        · rw [if_pos hn]; exact h1 hn
        · rw [if_neg hn]; exact h2 (by simpa using hn)
      · -- minus infinity
        have hn : neg a = true := by
          have hm : mag a = INF := by
            have h' : isNan a = false := by simpa using h
            unfold isNan at h'; unfold fin at fa; simp at h'; omega
          obtain ⟨a0, a1⟩ := ha
          unfold neg; unfold mag INF at hm
          refine decide_eq_true (Decidable.byContradiction fun hc => c (.inr ?_))
          unfold INF; omega
        refine ⟨QNAN, 16, start _ (Ev.succ ?_), by rw [if_neg h, if_neg c, if_pos hn]; exact ⟨rfl, rfl⟩⟩
        simp only [more_Sqrt.j0]
        exact Ev.neg (by decide) (Ev.call (word_Neg_eq ha) (Ev.pos (by rw [neg_def]; exact hn) (Ev.now _)))
/-- Between any bounds of the root lies a number that is rounded as the root is. -/
theorem SqX.between {v : Rat} {m f : Int} (h : SqX v m f) {lo hi : Rat} (l0 : 0 ≤ lo) (h0 : 0 ≤ hi) (hl : lo * lo < v) (hh : v < hi * hi) : ∃ y, lo < y ∧ y < hi ∧ RB y m f := by
  obtain ⟨W, E, w0, w1, wl, wh, ex, ne⟩ := h
  have q1 : 0 < (W : Rat) * pw E := by have := mul_pw_lt (a := 0) (b := W) (e := E); simpa using this.mpr w0
  have q3 : 0 < ((W + 1 : Int) : Rat) * pw E := by have := mul_pw_lt (a := 0) (b := W + 1) (e := E); simpa using this.mpr (by omega)
  generalize (W : Rat) * pw E = a at *
  generalize ((W + 1 : Int) : Rat) * pw E = b at *
  by_cases c : a * a = v
  · exact ⟨a, sq_lt l0 (by grind) (by grind), sq_lt (by grind) h0 (by grind), ex c⟩
  · have h1 : a < b := sq_lt (by grind) (by grind) (by grind)
    have h2 : a < hi := sq_lt (by grind) h0 (by grind)
    have h3 : lo < b := sq_lt l0 (by grind) (by grind)
    have h4 : lo < hi := sq_lt l0 h0 (by grind)
    have mid : ∀ {u w : Rat}, u < w → u < (u + w) / 2 ∧ (u + w) / 2 < w := by intro u w h; constructor <;> grind
    by_cases c1 : a ≤ lo <;> by_cases c2 : b ≤ hi
    · have := mid h3; exact ⟨(lo + b) / 2, by grind, by grind, ne c _ (by grind) (by grind)⟩
    · have := mid h4; exact ⟨(lo + hi) / 2, by grind, by grind, ne c _ (by grind) (by grind)⟩
    · have := mid h1; exact ⟨(a + b) / 2, by grind, by grind, ne c _ (by grind) (by grind)⟩
    · have := mid h2; exact ⟨(a + hi) / 2, by grind, by grind, ne c _ (by grind) (by grind)⟩

theorem SqX.le {v : Rat} {m f : Int} (h : SqX v m f) {hi : Rat} (h0 : 0 ≤ hi) (hh : v ≤ hi * hi) : ∃ y, y ≤ hi ∧ RB y m f := by
  obtain ⟨W, E, w0, w1, wl, wh, ex, ne⟩ := h
  have q1 : 0 < (W : Rat) * pw E := by have := mul_pw_lt (a := 0) (b := W) (e := E); simpa using this.mpr w0
  have q3 : (W : Rat) * pw E < ((W + 1 : Int) : Rat) * pw E := mul_pw_lt.mpr (by omega)
  generalize (W : Rat) * pw E = a at *
  generalize ((W + 1 : Int) : Rat) * pw E = b at *
  by_cases c : a * a = v
  · refine ⟨a, ?_, ex c⟩
    refine Decidable.byContradiction fun hc => ?_
    have h1 : hi < a := by grind
    have := Rat.mul_lt_mul_of_pos_left h1 q1
    have := Rat.mul_le_mul_of_nonneg_right (Rat.le_of_lt h1) h0
    grind
  · have h2 : a < hi := sq_lt (by grind) h0 (by grind)
    by_cases c2 : b ≤ hi
    · exact ⟨(a + b) / 2, by grind, ne c _ (by grind) (by grind)⟩
    · exact ⟨(a + hi) / 2, by grind, ne c _ (by grind) (by grind)⟩

/-- Half of the last place. -/
def ulp : Rat := pw (-53)
theorem ulp_pos : 0 < ulp := pw_pos _
theorem ulp_half (p : Rat) : 2 * (ulp * (((4503599627370496 : Int) : Rat) * p)) = p := by
  have h := pw_neg_mul 53
  have h2 : pw 53 = ((9007199254740992 : Int) : Rat) := by rw [pw_p2 (by decide)]; rfl
  rw [h2] at h
  have h3 : ((9007199254740992 : Int) : Rat) = 2 * ((4503599627370496 : Int) : Rat) := by decide +kernel
  rw [h3] at h
  unfold ulp
  have e : 2 * (pw (-53) * (((4503599627370496 : Int) : Rat) * p)) = (pw (-53) * (2 * ((4503599627370496 : Int) : Rat))) * p := by grind
  rw [e, h, Rat.one_mul]
theorem RB.err {x : Rat} {m f : Int} (h : RB x m f) (f3 : f ≠ 3) (f5 : f ≠ 5) : m < INF ∧ rabs (vm m - x) ≤ ulp * x ∧ rabs (vm m - x) ≤ ulp * vm m := by
  obtain ⟨q, n, hr, e1, e2⟩ := h.ex
  have hx := hr.pos
  have up := ulp_pos
  by_cases c : enc q n < INF
  · rw [if_pos c] at e1 e2
    subst e1
    rw [hr.val_enc]
    by_cases c2 : x = (n : Rat) * pw q
    · rw [← c2]
      have z : rabs (x - x) = 0 := by unfold rabs; grind
      have := Rat.mul_nonneg (Rat.le_of_lt up) (Rat.le_of_lt hx)
      rw [z]
      exact ⟨c, this, this⟩
    · rw [if_neg c2] at e2
      by_cases c3 : x < pw (-1022)
      · rw [if_pos c3] at e2; exact absurd e2 f3
      · have p := pw_pos q
        have lo : ((4503599627370496 : Int) : Rat) * pw q ≤ x := by
          rcases hr.lo with h1 | h1
          · subst h1
            have e : ((4503599627370496 : Int) : Rat) * pw (-1074) = pw (-1022) := by
              have := pw_addNat (-1074) 52
              rw [show (-1074 : Int) + (52 : Nat) = -1022 from by decide] at this
              rw [this]
              rfl
            rw [e]
            grind
          · exact h1
        have hn := hr.n_ge lo
        have hnp : ((4503599627370496 : Int) : Rat) * pw q ≤ (n : Rat) * pw q := Rat.mul_le_mul_of_nonneg_right (Rat.intCast_le_intCast.mpr hn) (Rat.le_of_lt p)
        have k1 := Rat.mul_le_mul_of_nonneg_left lo (Rat.le_of_lt up)
        have k2 := Rat.mul_le_mul_of_nonneg_left hnp (Rat.le_of_lt up)
        have k3 := ulp_half (pw q)
        have n1 := hr.near1
        have n2 := hr.near2
        push_cast at n1 n2
        have b : rabs ((n : Rat) * pw q - x) ≤ ulp * (((4503599627370496 : Int) : Rat) * pw q) := by
          generalize ulp * (((4503599627370496 : Int) : Rat) * pw q) = w at k3
          unfold rabs
          grind
        exact ⟨c, Rat.le_trans b k1, Rat.le_trans b k2⟩
  · rw [if_neg c] at e2
    exact absurd e2 f5
theorem rabs_zero : rabs 0 = 0 := by unfold rabs; grind
theorem rabs_add (x y : Rat) : rabs (x + y) ≤ rabs x + rabs y := by unfold rabs; grind
theorem Rd.err {x : Rat} {z : Bool} {r f : Int} (h : Rd x z r f) (f3 : f ≠ 3) (f5 : f ≠ 5) : fin r ∧ rabs (val r - x) ≤ ulp * rabs x ∧ rabs (val r - x) ≤ ulp * rabs (val r) := by
  by_cases hx : x = 0
  · obtain ⟨e, _⟩ := h.zero hx
    have m0 : mag r = 0 := by rw [e]; exact mag_signed (by decide) (by decide)
    have v : val r = 0 := val_zero_iff.mpr m0
    refine ⟨by unfold fin; rw [m0]; decide, ?_, ?_⟩
    · rw [v, hx]
      have : (0 : Rat) - 0 = 0 := by grind
      rw [this, rabs_zero]
      grind
    · rw [v, hx]
      have : (0 : Rat) - 0 = 0 := by grind
      rw [this, rabs_zero]
      grind
  · obtain ⟨m, h1, rfl⟩ := h.num hx
    obtain ⟨e1, e2, e3⟩ := h1.err f3 f5
    have hr := h1.range
    have hI : INF < 9223372036854775808 := by decide
    have vn := vm_nonneg (m := m) hr.1
    rw [val_signed hr.1 (by omega)]
    refine ⟨by unfold fin; rw [mag_signed hr.1 (by omega)]; exact e1, ?_, ?_⟩
    · by_cases c : x < 0
      · rw [if_pos (by simpa using c)]
        have a : rabs (-vm m - x) = rabs (vm m - rabs x) := by
          have : rabs x = -x := by unfold rabs; rw [if_pos c]
          rw [this, ← rabs_neg]
          congr 1
          grind
        rw [a]; exact e2
      · rw [if_neg (by simpa using c)]
        have : rabs x = x := by unfold rabs; rw [if_neg c]
        rw [this] at e2 ⊢
        exact e2
    · by_cases c : x < 0
      · rw [if_pos (by simpa using c)]
        have a : rabs (-vm m - x) = rabs (vm m - rabs x) := by
          have : rabs x = -x := by unfold rabs; rw [if_pos c]
          rw [this, ← rabs_neg]
          congr 1
          grind
        have b : rabs (-vm m) = vm m := by rw [rabs_neg]; unfold rabs; grind
        rw [a, b]; exact e3
      · rw [if_neg (by simpa using c)]
        have : rabs x = x := by unfold rabs; rw [if_neg c]
        have b : rabs (vm m) = vm m := by unfold rabs; grind
        rw [b]
        rw [this] at e3
        exact e3
/-- A sum of rational numbers, from one place on. -/
def rs (g : Nat → Rat) : Nat → Nat → Rat
  | _, 0 => 0
  | lo, m + 1 => g lo + rs g (lo + 1) m

/-- A little more than half of the last place. -/
def ulq : Rat := ulp * (1001 / 1000)
theorem ulq_pos : 0 < ulq := by decide +kernel
theorem RB.errN {x : Rat} {m f : Int} (h : RB x m f) (hx : pw (-1022) ≤ x) (hm : m < INF) : rabs (vm m - x) ≤ ulp * x := by
  have f3 : f ≠ 3 := by
    obtain ⟨q, n, hr, e1, e2⟩ := h.ex
    intro e
    rw [e] at e2
    by_cases c : enc q n < INF
    · rw [if_pos c] at e2
      by_cases c2 : x = (n : Rat) * pw q
      · rw [if_pos c2] at e2; exact absurd e2 (by decide)
      · rw [if_neg c2, if_neg (by grind)] at e2; exact absurd e2 (by decide)
    · rw [if_neg c] at e2; exact absurd e2 (by decide)
  have f5 : f ≠ 5 := by
    obtain ⟨q, n, hr, e1, e2⟩ := h.ex
    intro e
    rw [e] at e2
    by_cases c : enc q n < INF
    · rw [if_pos c] at e2
      by_cases c2 : x = (n : Rat) * pw q
      · rw [if_pos c2] at e2; exact absurd e2 (by decide)
      · rw [if_neg c2] at e2
        split at e2 <;> exact absurd e2 (by decide)
    · rw [if_neg c] at e1; omega
  exact (h.err f3 f5).2.1
/-- A root is near the exact one: its square lies between the number times 1 - e and times 1 + e, squared. -/
theorem SqX.near {v : Rat} {m f : Int} (h : SqX v m f) (h0 : pw (-1100) ≤ v) (h1 : v ≤ pw 1100) : m < INF ∧ 0 ≤ vm m ∧ v * ((1 - ulq) * (1 - ulq)) ≤ vm m * vm m ∧ vm m * vm m ≤ v * ((1 + ulq) * (1 + ulq)) := by
  have hm0 := (h.flags).2.2.1
  have vn := vm_nonneg (m := m) hm0
  have hv : 0 < v := by have := pw_pos (-1100); grind
  have q0 := ulq_pos
  have a1 : pw (-1022) ≤ pw (-600) := pw_mono (by decide)
  have sqlo : pw (-600) * pw (-600) < v := by
    rw [← pw_add]
    have := pw_lt (a := -600 + -600) (b := -1100) (by decide)
    have := pw_pos (-600 + -600)
    grind
  have sqhi : v < pw 600 * pw 600 := by
    rw [← pw_add]
    have := pw_lt (a := 1100) (b := 600 + 600) (by decide)
    have := pw_pos 1100
    grind
  have p0 := pw_pos (-600)
  have p1 := pw_pos 600
  obtain ⟨y, y1, y2, rb0⟩ := h.between (Rat.le_of_lt p0) (Rat.le_of_lt p1) sqlo sqhi
  have hm : m < INF := by
    refine Decidable.byContradiction fun hc => ?_
    have hv6 : vm (enc 549 4503599627370496) = ((4503599627370496 : Int) : Rat) * pw 549 := vm_enc (by decide) (by decide) (by decide) (.inr (by decide))
    have e52 : ((4503599627370496 : Int) : Rat) = pw 52 := by rw [pw_p2 (by decide)]; rfl
    rw [e52, ← pw_add] at hv6
    have h6 : y ≤ vm (enc 549 4503599627370496) := by
      rw [hv6]
      have := pw_lt (a := 600) (b := 52 + 549) (by decide)
      have := pw_pos 600
      grind
    have rl := rb0.mono (RB.self (m := enc 549 4503599627370496) (by decide) (by decide)) h6
    have : enc 549 4503599627370496 < INF := by decide
    omega
  -- any number between wide bounds that is rounded so is near
  have err : ∀ y, pw (-600) < y → RB y m f → rabs (vm m - y) ≤ ulp * y := fun y hy rb => rb.errN (by grind) hm
  have up : ulp < ulq := by decide +kernel
  have u1 : ulq ≤ 1 / 4 := by decide +kernel
  refine ⟨hm, vn, ?_, ?_⟩
  · refine Decidable.byContradiction fun hc => ?_
    have hlt : vm m * vm m < v * ((1 - ulq) * (1 - ulq)) := by grind
    -- lo is what the root would be at least
    have d0 : 0 < 1 - ulq := by grind
    have lo0 : 0 ≤ vm m / (1 - ulq) := by rw [Rat.div_def]; exact Rat.mul_nonneg vn (Rat.le_of_lt (Rat.inv_pos.mpr d0))
    have lom : vm m / (1 - ulq) * (1 - ulq) = vm m := Rat.div_mul_cancel (by grind)
    generalize vm m / (1 - ulq) = lo at lo0 lom
    have sq : lo * lo < v := by
      have e : vm m * vm m = lo * lo * ((1 - ulq) * (1 - ulq)) := by rw [← lom]; grind
      rw [e] at hlt
      have dd : 0 < (1 - ulq) * (1 - ulq) := Rat.mul_pos d0 d0
      refine Decidable.byContradiction fun hn => ?_
      have := Rat.mul_le_mul_of_nonneg_right (show v ≤ lo * lo by grind) (Rat.le_of_lt dd)
      grind
    obtain ⟨y, g1, g2, g3⟩ := h.between (lo := if lo < pw (-600) then pw (-600) else lo) (hi := pw 600) (by split <;> grind) (Rat.le_of_lt p1) (by split; exact sqlo; exact sq) sqhi
    have hy6 : pw (-600) < y := by split at g1 <;> grind
    have hylo : lo < y := by split at g1 <;> grind
    have e := err y hy6 g3
    have e2 : y - vm m ≤ ulp * y := by unfold rabs at e; split at e <;> grind
    have e3 : ulp * y < ulq * y := Rat.mul_lt_mul_of_pos_right up (by grind)
    have e4 : lo * (1 - ulq) < y * (1 - ulq) := Rat.mul_lt_mul_of_pos_right hylo d0
    grind
  · refine Decidable.byContradiction fun hc => ?_
    have hlt : v * ((1 + ulq) * (1 + ulq)) < vm m * vm m := by grind
    have d0 : 0 < 1 + ulq := by grind
    have lo0 : 0 ≤ vm m / (1 + ulq) := by rw [Rat.div_def]; exact Rat.mul_nonneg vn (Rat.le_of_lt (Rat.inv_pos.mpr d0))
    have lom : vm m / (1 + ulq) * (1 + ulq) = vm m := Rat.div_mul_cancel (by grind)
    generalize vm m / (1 + ulq) = hi at lo0 lom
    have sq : v < hi * hi := by
      have e : vm m * vm m = hi * hi * ((1 + ulq) * (1 + ulq)) := by rw [← lom]; grind
      rw [e] at hlt
      have dd : 0 < (1 + ulq) * (1 + ulq) := Rat.mul_pos d0 d0
      refine Decidable.byContradiction fun hn => ?_
      have := Rat.mul_le_mul_of_nonneg_right (show hi * hi ≤ v by grind) (Rat.le_of_lt dd)
      grind
    obtain ⟨y, g1, g2, g3⟩ := h.between (Rat.le_of_lt p0) lo0 sqlo sq
    have e := err y g1 g3
    have e2 : vm m - y ≤ ulp * y := by unfold rabs at e; split at e <;> grind
    have e3 : ulp * y < ulq * y := Rat.mul_lt_mul_of_pos_right up (by grind)
    have e4 : y * (1 + ulq) < hi * (1 + ulq) := Rat.mul_lt_mul_of_pos_right g2 d0
    grind

theorem add_nan {a b : Int} (ha : U a) (hb : U b) (h : (isNan a || isNan b) = true) : Ev (fun k => soft_Add.f k a b) (QNAN, nanF a b) := by
  unfold soft_Add.f
  refine Ev.bind (soft_nan2 ha hb) ?_
  exact Ev.pos h (Ev.now _)
theorem add_kinds {a b : Int} (ha : U a) (hb : U b) (h : (isNan a || isNan b) = false) {r : Int × Int}
    (hk : Ev (fun k => soft_Add.j0 k a b (kindOf (mag a)) (kindOf (mag b)) (if kindOf (mag a) = 4 then (if kindOf (mag b) = 4 then a != b else false) else false)) r) : Ev (fun k => soft_Add.f k a b) r := by
  unfold soft_Add.f
  refine Ev.bind (soft_nan2 ha hb) (Ev.neg (by simp only [h]; decide) (Ev.bind (word_Kind_ev ha) (Ev.bind (word_Kind_ev hb) ?_)))
  rw [kind_mag, kind_mag]
  by_cases c1 : kindOf (mag a) = 4
  · by_cases c2 : kindOf (mag b) = 4
    · rw [if_pos c1, if_pos c2] at hk; exact Ev.pos c1 (Ev.pos c2 hk)
    · rw [if_pos c1, if_neg c2] at hk; exact Ev.pos c1 (Ev.neg c2 hk)
  · rw [if_neg c1] at hk; exact Ev.neg c1 hk
theorem add_inf2 {a b : Int} (ha : U a) (hb : U b) (h1 : mag a = INF) (h2 : mag b = INF) (h3 : a ≠ b) : Ev (fun k => soft_Add.f k a b) (QNAN, 16) := by
  refine add_kinds ha hb (by unfold isNan; rw [h1, h2]; decide) ?_
  rw [if_pos (kind_inf.mpr h1), if_pos (kind_inf.mpr h2)]
  refine Ev.succ ?_
  simp only [soft_Add.j0]
  exact Ev.pos (by simp [h3]) (Ev.now _)
theorem add_infa {a b : Int} (ha : U a) (hb : U b) (h1 : mag a = INF) (h2 : isNan b = false) (h3 : a = b ∨ mag b ≠ INF) : Ev (fun k => soft_Add.f k a b) (a, 0) := by
  refine add_kinds ha hb (by rw [h2]; unfold isNan; rw [h1]; decide) ?_
  refine Ev.succ ?_
  simp only [soft_Add.j0]
  refine Ev.neg ?_ (Ev.pos (kind_inf.mpr h1) (Ev.now _))
  rw [if_pos (kind_inf.mpr h1)]
  rcases h3 with h3 | h3
  · subst h3; simp
  · rw [if_neg (fun h => h3 (kind_inf.mp h))]; decide
theorem add_infb {a b : Int} (ha : U a) (hb : U b) (h1 : fin a) (h2 : mag b = INF) : Ev (fun k => soft_Add.f k a b) (b, 0) := by
  have hn : kindOf (mag a) ≠ 4 := fun h => by have := kind_inf.mp h; unfold fin at h1; omega
  refine add_kinds ha hb (by rw [fin_nan h1]; unfold isNan; rw [h2]; decide) ?_
  refine Ev.succ ?_
  simp only [soft_Add.j0]
  rw [if_neg hn]
  exact Ev.neg (by decide) (Ev.neg hn (Ev.pos (kind_inf.mpr h2) (Ev.now _)))

theorem wide_Sub_eq {h l h' l' : Int} (hh : U h) (hl : U l) (hh' : U h') (hl' : U l') (hle : wv h' l' ≤ wv h l) : ∃ a b, wide_Wide_Sub.f h l h' l' = some (a, b, false) ∧ U a ∧ U b ∧ wv a b = wv h l - wv h' l' := by
  obtain ⟨x0, x1⟩ := hh; obtain ⟨x2, x3⟩ := hl; obtain ⟨x4, x5⟩ := hh'; obtain ⟨x6, x7⟩ := hl'
  unfold wide_Wide_Sub.f bits_Sub64.f
  rw [if_pos ⟨x2, x6, x7, by decide, by decide⟩]
  simp only [Option.bind_some]
  unfold wv at hle
  by_cases c : l < l' + 0
  · rw [if_pos c, if_pos ⟨x0, x4, x5, by decide, by decide⟩]
    simp only [Option.bind_some]
    refine ⟨_, _, congrArg some (Prod.ext rfl (Prod.ext rfl ?_)), ⟨by omega, by omega⟩, ⟨by omega, by omega⟩, ?_⟩
    · rw [if_neg (by omega)]; rfl
    · unfold wv; omega
  · rw [if_neg c, if_pos ⟨x0, x4, x5, by decide, by decide⟩]
    simp only [Option.bind_some]
    refine ⟨_, _, congrArg some (Prod.ext rfl (Prod.ext rfl ?_)), ⟨by omega, by omega⟩, ⟨by omega, by omega⟩, ?_⟩
    · rw [if_neg (by omega)]; rfl
    · unfold wv; omega
theorem add_j2 {a b : Int} (ha : U a) (hb : U b) (fa : fin a) (fb : fin b) (za : 0 < mag a) (zb : 0 < mag b) (hle : mag b ≤ mag a) :
    ∃ r f, Ev (fun k => soft_Add.j2 k a b) (r, f) ∧ Rd (val a + val b) (neg a && neg b) r f := by
  have pa := word_Parts_ev ha za fa
  have pb := word_Parts_ev hb zb fb
  obtain ⟨ea1, ea2⟩ := fin_expo fa
  obtain ⟨eb1, eb2⟩ := fin_expo fb
  have hex : expo (mag b) ≤ expo (mag a) := expo_mono (by omega) hle
  have ma := mant_pos za
  have ma' := mant_lt (m := mag a)
  have mga := mant_ge (m := mag a) (by omega)
  have mb := mant_pos zb
  have mb' := mant_lt (m := mag b)
  have va : vm (mag a) = (mant (mag a) : Rat) * pw (expo (mag a)) := rfl
  have vb : vm (mag b) = (mant (mag b) : Rat) * pw (expo (mag b)) := rfl
  have hvle : vm (mag b) ≤ vm (mag a) := vm_mono (by omega) hle
  generalize hM : mant (mag a) = M at *
  generalize hN : mant (mag b) = N at *
  generalize hE : expo (mag a) = E at *
  generalize hG : expo (mag b) = G at *
  have emag : ∀ c : Int, c % 9223372036854775808 = mag c := fun _ => rfl
  rw [emag, hM, hE] at pa
  rw [emag, hN, hG] at pb
  have UM : U M := ⟨by omega, by omega⟩
  have UN : U N := ⟨by omega, by omega⟩
  obtain ⟨qh, ql, evq, uq1, uq2, eq⟩ := wide_Right_ev (h := N) (l := 0) (n := E - G) UN U_0 (by omega)
  have wN : wv N 0 = N * 18446744073709551616 := by unfold wv; omega
  have wM : wv M 0 = M * 18446744073709551616 := by unfold wv; omega
  rw [wN] at evq eq
  have hP := p2_pos (E - G)
  have dm := Int.mul_ediv_add_emod (N * 18446744073709551616) (p2 (E - G))
  have r0 := Int.emod_nonneg (N * 18446744073709551616) (Int.ne_of_gt hP)
  have r1 := Int.emod_lt_of_pos (N * 18446744073709551616) hP
  have q0 : 0 ≤ N * 18446744073709551616 / p2 (E - G) := Int.ediv_nonneg (by omega) (Int.le_of_lt hP)
  have q1 : N * 18446744073709551616 / p2 (E - G) ≤ N * 18446744073709551616 := Int.ediv_le_self _ (by omega)
  generalize hQ : N * 18446744073709551616 / p2 (E - G) = Q at *
  generalize hR : N * 18446744073709551616 % p2 (E - G) = R at *
  -- in units of 2^(E - 64)
  have hu := pw_pos (E - 64)
  have uE : pw E = (18446744073709551616 : Int) * pw (E - 64) := by
    rw [show (18446744073709551616 : Int) = p2 64 from rfl, ← pw_p2 (by decide), ← pw_add]; congr 1; omega
  have uG : (N : Rat) * pw G * (p2 (E - G) : Rat) = (N * 18446744073709551616 : Int) * pw (E - 64) := by
    have : pw G * (p2 (E - G) : Rat) = pw E := by rw [← pw_p2 (by omega), ← pw_add]; congr 1; omega
    rw [Rat.mul_assoc, this, uE]; push_cast; grind
  have hPr : (0 : Rat) < (p2 (E - G) : Rat) := by exact_mod_cast hP
  -- the lesser one lies between Q and Q + 1
  have hlow0 : R = 0 → (N : Rat) * pw G = (Q : Rat) * pw (E - 64) := by
    intro h
    have h1 : (N * 18446744073709551616 : Int) = p2 (E - G) * Q := by omega
    rw [h1] at uG
    have h2 : (p2 (E - G) : Rat) * ((N : Rat) * pw G) = (p2 (E - G) : Rat) * ((Q : Rat) * pw (E - 64)) := by push_cast at uG; grind
    exact Rat.le_antisymm (Rat.le_of_mul_le_mul_left (by rw [h2]; exact Rat.le_refl) hPr) (Rat.le_of_mul_le_mul_left (by rw [h2]; exact Rat.le_refl) hPr)
  have hlow1 : R ≠ 0 → (Q : Rat) * pw (E - 64) < (N : Rat) * pw G ∧ (N : Rat) * pw G < (Q + 1 : Int) * pw (E - 64) := by
    intro h
    constructor
    · refine Rat.lt_of_mul_lt_mul_left (c := (p2 (E - G) : Rat)) ?_ (Rat.le_of_lt hPr)
      have h1 : (p2 (E - G) * Q : Int) * pw (E - 64) < (N * 18446744073709551616 : Int) * pw (E - 64) := mul_pw_lt.mpr (by omega)
      rw [← uG] at h1
      push_cast at h1; grind
    · refine Rat.lt_of_mul_lt_mul_left (c := (p2 (E - G) : Rat)) ?_ (Rat.le_of_lt hPr)
      have e2 : p2 (E - G) * (Q + 1) = p2 (E - G) * Q + p2 (E - G) := by grind
      have h1 : (N * 18446744073709551616 : Int) * pw (E - 64) < (p2 (E - G) * (Q + 1) : Int) * pw (E - 64) := mul_pw_lt.mpr (by omega)
      rw [← uG] at h1
      push_cast at h1 ⊢; grind
  have hbig : R ≠ 0 → 4503599627370496 ≤ M ∧ Q < 9007199254740992 := by
    intro h
    have hlt : 64 < E - G := by
      refine Decidable.byContradiction fun hc => h ?_
      have : (18446744073709551616 : Int) = p2 (64 - (E - G)) * p2 (E - G) := by rw [← p2_64, ← p2_add (by omega) (by omega)]; congr 1; omega
      rw [← hR, this, ← Int.mul_assoc]
      exact Int.mul_emod_left _ _
    refine ⟨by omega, ?_⟩
    rw [← hQ]
    apply Int.ediv_lt_of_lt_mul hP
    have h64 : 18446744073709551616 ≤ p2 (E - G) := by rw [← p2_64]; exact p2_le (by omega)
    have := Int.mul_le_mul_of_nonneg_left h64 (show (0 : Int) ≤ 9007199254740992 by decide)
    omega
  refine Exists.elim (?_ : ∃ rf : Int × Int, Ev (fun k => soft_Add.j2 k a b) rf ∧ Rd (val a + val b) (neg a && neg b) rf.1 rf.2) (fun rf h => ⟨rf.1, rf.2, h⟩)
  have aM : (M : Rat) * pw E = (M * 18446744073709551616 : Int) * pw (E - 64) := by rw [uE]; push_cast; grind
  -- the head of j2
  have start : ∀ rf : Int × Int, Ev (fun k => if (neg a == neg b) = true then ((wide_Wide_Add.f M 0 qh ql).bind fun bt189 => ((word_Neg.f a).bind fun t193 => ((round_Round.f k t193 bt189.1 bt189.2.1 (E - 64) (decide (R ≠ 0))).bind fun bt194 => (some (bt194.1, bt194.2)))))
      else (if decide (R ≠ 0) = true then ((wide_Wide_Add.f qh ql 0 1).bind fun bt196 => (soft_Add.j3 k a E (decide (R ≠ 0)) M 0 bt196.1 bt196.2.1)) else (soft_Add.j3 k a E (decide (R ≠ 0)) M 0 qh ql))) rf → Ev (fun k => soft_Add.j2 k a b) rf := by
    intro rf h
    refine Ev.succ ?_
    simp only [soft_Add.j2]
    refine Ev.bind pa (Ev.bind pb (Ev.call (wl64 (by omega) (by omega)) (Ev.call (wl64 (by omega) (by omega)) ?_)))
    dsimp only
    rw [w64 (x := E - G) (by omega) (by omega), w64 (x := E - 64) (by omega) (by omega)]
    refine Ev.bind evq (Ev.call (word_Neg_eq ha) (Ev.call (word_Neg_eq hb) ?_))
    refine Ev.same (fun k => ?_) h
    by_cases c : R ≠ 0
    · rw [decide_eq_true c]; rfl
    · rw [decide_eq_false c]; rfl
  by_cases hs : neg a = neg b
  · -- like signs
    obtain ⟨sh, sl, es, us1, us2, ev⟩ := wide_Add_eq UM U_0 uq1 uq2
    rw [wM, eq] at ev es
    have evs : wv sh sl = M * 18446744073709551616 + Q := by rw [ev]; exact Int.emod_eq_of_lt (by omega) (by omega)
    have hx : rabs (val a + val b) = vm (mag a) + vm (mag b) := by
      have := vm_pos za; have := vm_pos zb
      rw [val_eq a, val_eq b, ← hs]
      unfold rabs
      cases neg a <;> simp <;> grind
    have hne : val a + val b ≠ 0 := by
      have := vm_pos za; have := vm_pos zb
      intro h
      rw [h] at hx
      have : rabs 0 = 0 := rfl
      grind
    have hsg : decide (val a + val b < 0) = neg a := by
      have := vm_pos za; have := vm_pos zb
      rw [val_eq a, val_eq b, ← hs]
      cases neg a <;> simp <;> grind
    have hblen : 54 ≤ blen (M * 18446744073709551616 + Q) := by
      obtain ⟨b1, b2, b3⟩ := blen_pos (x := M * 18446744073709551616 + Q) (by omega)
      refine Decidable.byContradiction fun hc => ?_
      have := p2_le (show blen (M * 18446744073709551616 + Q) ≤ 53 from by omega)
      have e53 : p2 53 = 9007199254740992 := by decide
      omega
    obtain ⟨m, f, er, rb⟩ := round_Round_ev (neg a) us1 us2 (E := E - 64) (by omega) (by omega) (decide (R ≠ 0)) (x := vm (mag a) + vm (mag b)) (by omega)
      (by intro h; have h : R = 0 := by simpa using h
          rw [va, vb, hlow0 h, aM, evs]; push_cast; grind)
      (by intro h; have h : R ≠ 0 := by simpa using h
          refine ⟨?_, by rw [evs]; exact hblen⟩
          obtain ⟨l1, l2⟩ := hlow1 h
          rw [va, vb, aM, evs]
          push_cast at l2 ⊢
          constructor <;> grind)
    refine ⟨(signed (neg a) m, f), start _ (Ev.pos (by simp [hs]) (Ev.call es (Ev.call (word_Neg_eq ha) ?_))), ⟨fun h => absurd h hne, fun _ => ⟨m, by rw [hx]; exact rb, by rw [hsg]⟩⟩⟩
    dsimp only
    exact Ev.bind er (Ev.now _)
  · -- unlike signs
    have hz : (neg a && neg b) = false := by revert hs; cases neg a <;> cases neg b <;> simp
    have hx : rabs (val a + val b) = vm (mag a) - vm (mag b) := by
      have := vm_pos za; have := vm_pos zb
      rw [val_eq a, val_eq b]
      unfold rabs
      revert hs
      cases neg a <;> cases neg b <;> simp <;> grind
    have hsg : val a + val b ≠ 0 → decide (val a + val b < 0) = neg a := by
      have := vm_pos za; have := vm_pos zb
      rw [val_eq a, val_eq b]
      revert hs
      cases neg a <;> cases neg b <;> simp <;> grind
    have tail : ∀ (sh sl : Int), U sh → U sl → ∀ low : Bool, low = decide (R ≠ 0) → wv sh sl = M * 18446744073709551616 - (if R = 0 then Q else Q + 1) → ¬ (wv sh sl = 0 ∧ low = false) →
        ∃ rf : Int × Int, Ev (fun k => soft_Add.j4 k a E low false sh sl) rf ∧ Rd (val a + val b) (neg a && neg b) rf.1 rf.2 := by
      intro sh sl us1 us2 low hl evs hnz
      have hpos : 0 < wv sh sl := by
        have := (wv_range us1 us2).1
        by_cases c : R = 0
        · have hl' : low = false := by rw [hl]; simp [c]
          have : wv sh sl ≠ 0 := fun h => hnz ⟨h, hl'⟩
          omega
        · obtain ⟨b1, b2⟩ := hbig c
          rw [if_neg c] at evs
          omega
      have hblen : R ≠ 0 → 54 ≤ blen (wv sh sl) := by
        intro c
        obtain ⟨b1, b2⟩ := hbig c
        rw [if_neg c] at evs
        obtain ⟨c1, c2, c3⟩ := blen_pos hpos
        refine Decidable.byContradiction fun hc => ?_
        have := p2_le (show blen (wv sh sl) ≤ 53 from by omega)
        have e53 : p2 53 = 9007199254740992 := by decide
        omega
      obtain ⟨m, f, er, rb⟩ := round_Round_ev (neg a) us1 us2 (E := E - 64) (by omega) (by omega) low (x := vm (mag a) - vm (mag b)) hpos
        (by intro h; have h : R = 0 := by rw [hl] at h; simpa using h
            rw [if_pos h] at evs
            rw [va, vb, hlow0 h, aM, evs]; push_cast; grind)
        (by intro h; have h : R ≠ 0 := by rw [hl] at h; simpa using h
            refine ⟨?_, hblen h⟩
            rw [if_neg h] at evs
            obtain ⟨l1, l2⟩ := hlow1 h
            rw [va, vb, aM, evs]
            push_cast at l2 ⊢
            constructor <;> grind)
      have hxne : val a + val b ≠ 0 := by
        intro h
        have h1 : rabs (val a + val b) = 0 := by rw [h]; rfl
        obtain ⟨q, n, hq, _⟩ := rb.ex
        have := hq.pos
        rw [hx] at h1
        grind
      refine ⟨(signed (neg a) m, f), Ev.succ ?_, ⟨fun h => absurd h hxne, fun _ => ⟨m, by rw [hx]; exact rb, by rw [hsg hxne]⟩⟩⟩
      simp only [soft_Add.j4]
      refine Ev.neg (by decide) (Ev.call (word_Neg_eq ha) ?_)
      rw [w64 (x := E - 64) (by omega) (by omega)]
      exact Ev.bind er (Ev.now _)
    -- the lesser one isn't greater
    have hQM : (if R = 0 then Q else Q + 1) ≤ M * 18446744073709551616 := by
      by_cases c : R = 0
      · rw [if_pos c]
        have : (Q : Rat) * pw (E - 64) ≤ (M * 18446744073709551616 : Int) * pw (E - 64) := by rw [← hlow0 c, ← aM, ← va, ← vb]; exact hvle
        exact mul_pw_le.mp this
      · rw [if_neg c]
        have := hbig c
        omega
    have j3 : ∀ (qh' ql' : Int), U qh' → U ql' → wv qh' ql' = (if R = 0 then Q else Q + 1) →
        ∃ rf : Int × Int, Ev (fun k => soft_Add.j3 k a E (decide (R ≠ 0)) M 0 qh' ql') rf ∧ Rd (val a + val b) (neg a && neg b) rf.1 rf.2 := by
      intro qh' ql' u1 u2 e
      obtain ⟨sh, sl, es, us1, us2, evs⟩ := wide_Sub_eq UM U_0 u1 u2 (by rw [wM, e]; exact hQM)
      rw [wM, e] at evs
      by_cases hz0 : wv sh sl = 0
      · by_cases c : R = 0
        · -- nothing is left
          refine ⟨(0, 0), Ev.succ ?_, ⟨fun _ => ⟨by rw [hz]; rfl, rfl⟩, fun h => absurd ?_ h⟩⟩
          · simp only [soft_Add.j3]
            refine Ev.call es (Ev.call (wide_Zero_eq us1 us2) ?_)
            rw [decide_eq_true hz0]
            refine Ev.pos rfl (Ev.succ ?_)
            simp only [soft_Add.j4]
            exact Ev.pos (by simp [c]) (Ev.now _)
          · have h1 : rabs (val a + val b) = 0 := by
              rw [hx, va, vb, hlow0 c, aM]
              rw [if_pos c, hz0] at evs
              have : M * 18446744073709551616 = Q := by omega
              rw [this]; grind
            unfold rabs at h1; grind
        · obtain ⟨rf, ev, rd⟩ := tail sh sl us1 us2 _ rfl evs (by simp [c])
          refine ⟨rf, Ev.succ ?_, rd⟩
          simp only [soft_Add.j3]
          refine Ev.call es (Ev.call (wide_Zero_eq us1 us2) ?_)
          rw [decide_eq_true hz0]
          refine Ev.pos rfl ?_
          rw [show (!decide (R ≠ 0)) = false from by simp [c]]
          exact ev
      · obtain ⟨rf, ev, rd⟩ := tail sh sl us1 us2 _ rfl evs (fun h => hz0 h.1)
        refine ⟨rf, Ev.succ ?_, rd⟩
        simp only [soft_Add.j3]
        refine Ev.call es (Ev.call (wide_Zero_eq us1 us2) ?_)
        rw [decide_eq_false hz0]
        exact Ev.neg (by decide) ev
    by_cases c : R = 0
    · obtain ⟨rf, ev, rd⟩ := j3 qh ql uq1 uq2 (by rw [if_pos c]; exact eq)
      refine ⟨rf, start _ (Ev.neg (by simp [hs]) (Ev.neg (by simp [c]) ev)), rd⟩
    · obtain ⟨ah, al, ea, ua1, ua2, eva⟩ := wide_Add_eq uq1 uq2 U_0 U_1
      have e1 : wv 0 1 = 1 := by unfold wv; omega
      rw [eq, e1, Int.emod_eq_of_lt (by omega) (by omega)] at eva
      obtain ⟨rf, ev, rd⟩ := j3 ah al ua1 ua2 (by rw [if_neg c]; exact eva)
      refine ⟨rf, start _ (Ev.neg (by simp [hs]) (Ev.pos (by simp [c]) (Ev.call ea ?_))), rd⟩
      exact ev

theorem zero_two {a : Int} (ha : U a) (h : mag a = 0) : a = if neg a then 9223372036854775808 else 0 := by
  obtain ⟨h0, h1⟩ := ha
  unfold mag at h
  unfold neg
  by_cases c : 9223372036854775808 ≤ a
  · rw [decide_eq_true c]; simp; omega
  · rw [decide_eq_false c]; simp; omega
/-- ADD: of two numbers. -/
theorem add_fin {a b : Int} (ha : U a) (hb : U b) (fa : fin a) (fb : fin b) : ∃ r f, Ev (fun k => soft_Add.f k a b) (r, f) ∧ Rd (val a + val b) (neg a && neg b) r f := by
  have ka : kindOf (mag a) ≠ 4 := fun h => by have := kind_inf.mp h; unfold fin at fa; omega
  have kb : kindOf (mag b) ≠ 4 := fun h => by have := kind_inf.mp h; unfold fin at fb; omega
  have step : ∀ rf : Int × Int, Ev (fun k => soft_Add.j1 k a b (kindOf (mag a)) (kindOf (mag b)) (if kindOf (mag a) = 1 then (kindOf (mag b) == 1) else false)) rf → Ev (fun k => soft_Add.f k a b) rf := by
    intro rf h
    refine add_kinds ha hb (by rw [fin_nan fa, fin_nan fb]; rfl) ?_
    rw [if_neg ka]
    refine Ev.succ ?_
    simp only [soft_Add.j0]
    refine Ev.neg (by decide) (Ev.neg ka (Ev.neg kb ?_))
    by_cases c : kindOf (mag a) = 1
    · rw [if_pos c] at h; exact Ev.pos c h
    · rw [if_neg c] at h; exact Ev.neg c h
  by_cases za : mag a = 0
  · have k1 := kind_zero.mpr za
    by_cases zb : mag b = 0
    · have k2 := kind_zero.mpr zb
      refine ⟨bits .and .u64 a b, 0, step _ (Ev.succ ?_), ?_⟩
      · simp only [soft_Add.j1]
        exact Ev.pos (by rw [if_pos k1, k2]; rfl) (Ev.now _)
      · have h0 : val a + val b = 0 := by rw [val_zero_iff.mpr za, val_zero_iff.mpr zb]; grind
        refine ⟨fun _ => ⟨?_, rfl⟩, fun h => absurd h0 h⟩
        have e1 := zero_two ha za
        have e2 := zero_two hb zb
        rw [e1, e2]
        cases neg a <;> cases neg b <;> decide
    · have k2 : ¬ kindOf (mag b) = 1 := fun h => zb (kind_zero.mp h)
      refine ⟨b, 0, step _ (Ev.succ ?_), ?_⟩
      · simp only [soft_Add.j1]
        exact Ev.neg (by rw [if_pos k1]; simpa using k2) (Ev.pos k1 (Ev.now _))
      · rw [val_zero_iff.mpr za, show (0 : Rat) + val b = val b from by grind]
        exact Rd.self hb fb zb _
  · have k1 : ¬ kindOf (mag a) = 1 := fun h => za (kind_zero.mp h)
    by_cases zb : mag b = 0
    · have k2 := kind_zero.mpr zb
      refine ⟨a, 0, step _ (Ev.succ ?_), ?_⟩
      · simp only [soft_Add.j1]
        exact Ev.neg (by rw [if_neg k1]; decide) (Ev.neg k1 (Ev.pos k2 (Ev.now _)))
      · rw [val_zero_iff.mpr zb, show val a + (0 : Rat) = val a from by grind]
        exact Rd.self ha fa za _
    · have k2 : ¬ kindOf (mag b) = 1 := fun h => zb (kind_zero.mp h)
      have m0 := (mag_lt (a := a)).1
      have m1 := (mag_lt (a := b)).1
      by_cases hlt : mag a < mag b
      · obtain ⟨r, f, ev, rd⟩ := add_j2 hb ha fb fa (by omega) (by omega) (by omega)
        refine ⟨r, f, step _ (Ev.succ ?_), by rw [show val a + val b = val b + val a from by grind, Bool.and_comm]; exact rd⟩
        simp only [soft_Add.j1]
        exact Ev.neg (by rw [if_neg k1]; decide) (Ev.neg k1 (Ev.neg k2 (Ev.call (word_Abs_eq ha) (Ev.call (word_Abs_eq hb) (Ev.pos hlt ev)))))
      · obtain ⟨r, f, ev, rd⟩ := add_j2 ha hb fa fb (by omega) (by omega) (by omega)
        refine ⟨r, f, step _ (Ev.succ ?_), rd⟩
        simp only [soft_Add.j1]
        exact Ev.neg (by rw [if_neg k1]; decide) (Ev.neg k1 (Ev.neg k2 (Ev.call (word_Abs_eq ha) (Ev.call (word_Abs_eq hb) (Ev.neg hlt ev)))))

def AddR (a b r f : Int) : Prop :=
  if (isNan a || isNan b) = true then r = QNAN ∧ f = nanF a b
  else if mag a = INF then (if mag b = INF ∧ a ≠ b then r = QNAN ∧ f = 16 else r = a ∧ f = 0)
  else if mag b = INF then r = b ∧ f = 0
  else Rd (val a + val b) (neg a && neg b) r f
theorem add_ev {a b : Int} (ha : U a) (hb : U b) : ∃ r f, Ev (fun k => soft_Add.f k a b) (r, f) ∧ AddR a b r f := by
  unfold AddR
  by_cases h : (isNan a || isNan b) = true
  · exact ⟨_, _, add_nan ha hb h, by rw [if_pos h]; exact ⟨rfl, rfl⟩⟩
  · obtain ⟨h0, na, nb⟩ := nan_or h
    by_cases ia : mag a = INF
    · by_cases ib : mag b = INF ∧ a ≠ b
      · exact ⟨_, _, add_inf2 ha hb ia ib.1 ib.2, by rw [if_neg h, if_pos ia, if_pos ib]; exact ⟨rfl, rfl⟩⟩
      · refine ⟨_, _, add_infa ha hb ia nb ?_, by rw [if_neg h, if_pos ia, if_neg ib]; exact ⟨rfl, rfl⟩⟩
        by_cases c : a = b
        · exact .inl c
        · exact .inr (fun hh => ib ⟨hh, c⟩)
    · by_cases ib : mag b = INF
      · exact ⟨_, _, add_infb ha hb (fin_of na ia) ib, by rw [if_neg h, if_neg ia, if_pos ib]; exact ⟨rfl, rfl⟩⟩
      · obtain ⟨r, f, ev, rd⟩ := add_fin ha hb (fin_of na ia) (fin_of nb ib)
        exact ⟨r, f, ev, by rw [if_neg h, if_neg ia, if_neg ib]; exact rd⟩
theorem AddR.unique {a b r f r' f' : Int} (h : AddR a b r f) (h' : AddR a b r' f') : r = r' ∧ f = f' := by
  unfold AddR at h h'
  by_cases c1 : (isNan a || isNan b) = true
  · rw [if_pos c1] at h h'; omega
  · rw [if_neg c1] at h h'
    by_cases c2 : mag a = INF
    · rw [if_pos c2] at h h'
      by_cases c3 : mag b = INF ∧ a ≠ b
      · rw [if_pos c3] at h h'; omega
      · rw [if_neg c3] at h h'; omega
    · rw [if_neg c2] at h h'
      by_cases c3 : mag b = INF
      · rw [if_pos c3] at h h'; omega
      · rw [if_neg c3] at h h'; exact h.unique h'
theorem AddR.fin {a b r f : Int} (fa : fin a) (fb : fin b) : AddR a b r f ↔ Rd (val a + val b) (neg a && neg b) r f := by
  unfold AddR; rw [fin_nan fa, fin_nan fb, if_neg (by decide), if_neg (not_inf fa), if_neg (not_inf fb)]
theorem AddR.flags {a b r f : Int} (h : AddR a b r f) : 0 ≤ f ∧ f ≤ 16 := by
  have := nanF_le a b
  unfold AddR at h
  split at h
  · omega
  · split at h
    · split at h <;> omega
    · split at h
      · omega
      · exact h.flags
theorem AddR.range {a b r f : Int} (ha : U a) (hb : U b) (h : AddR a b r f) : U r := by
  unfold AddR at h
  have q : U QNAN := by unfold QNAN U; decide
  split at h
  · rw [h.1]; exact q
  · split at h
    · split at h
      · rw [h.1]; exact q
      · rw [h.1]; exact ha
    · split at h
      · rw [h.1]; exact hb
      · exact h.range.1
theorem mul_nan {a b : Int} (ha : U a) (hb : U b) (h : (isNan a || isNan b) = true) : Ev (fun k => soft_Mul.f k a b) (QNAN, nanF a b) := by
  unfold soft_Mul.f
  refine Ev.bind (soft_nan2 ha hb) ?_
  exact Ev.pos h (Ev.now _)
/-- Infinity times zero? -/
def infZero (a b : Int) : Bool := (decide (mag a = INF) && decide (mag b = 0)) || (decide (mag a = 0) && decide (mag b = INF))
theorem mul_kinds {a b : Int} (ha : U a) (hb : U b) (h : (isNan a || isNan b) = false) {r : Int × Int}
    (hk : Ev (fun k => soft_Mul.j0 k a b (neg a != neg b) (kindOf (mag a)) (kindOf (mag b)) (infZero a b)) r) : Ev (fun k => soft_Mul.f k a b) r := by
  unfold soft_Mul.f
  refine Ev.bind (soft_nan2 ha hb) (Ev.neg (by simp only [h]; decide) (Ev.call (word_Neg_eq ha) (Ev.call (word_Neg_eq hb) (Ev.bind (word_Kind_ev ha) (Ev.bind (word_Kind_ev hb) ?_)))))
  rw [kind_mag, kind_mag, neg_def, neg_def]
  have kz : ∀ c : Int, (kindOf (mag c) == 4) = decide (mag c = INF) := fun c => by
    rw [Bool.eq_iff_iff]; simp only [beq_iff_eq, decide_eq_true_eq]; exact kind_inf
  have I0 : (INF : Int) ≠ 0 := by decide
  rw [kz]
  by_cases c1 : kindOf (mag a) = 4
  · have m1 := kind_inf.mp c1
    have n1 : ¬ kindOf (mag a) = 1 := by rw [c1]; decide
    by_cases c2 : kindOf (mag b) = 1
    · have m2 := kind_zero.mp c2
      have e : infZero a b = true := by unfold infZero; rw [m1, m2]; decide
      rw [e] at hk
      exact Ev.pos c1 (Ev.pos c2 hk)
    · have m2 : mag b ≠ 0 := fun h => c2 (kind_zero.mpr h)
      have e : infZero a b = false := by unfold infZero; rw [m1]; simp [m2, I0]
      rw [e] at hk
      exact Ev.pos c1 (Ev.neg c2 (Ev.neg n1 hk))
  · have m1 : mag a ≠ INF := fun h => c1 (kind_inf.mpr h)
    by_cases c2 : kindOf (mag a) = 1
    · have m2 := kind_zero.mp c2
      have e : infZero a b = decide (mag b = INF) := by unfold infZero; rw [m2]; simp [Ne.symm I0]
      rw [e] at hk
      exact Ev.neg c1 (Ev.pos c2 hk)
    · have m2 : mag a ≠ 0 := fun h => c2 (kind_zero.mpr h)
      have e : infZero a b = false := by unfold infZero; simp [m1, m2]
      rw [e] at hk
      exact Ev.neg c1 (Ev.neg c2 hk)
theorem mul_infzero {a b : Int} (ha : U a) (hb : U b) (h : infZero a b = true) : Ev (fun k => soft_Mul.f k a b) (QNAN, 16) := by
  refine mul_kinds ha hb ?_ ?_
  · unfold infZero at h
    have h0 : isNan a = false ∧ isNan b = false := by
      unfold isNan INF at *
      simp at h ⊢
      omega
    rw [h0.1, h0.2]; rfl
  · refine Ev.succ ?_
    simp only [soft_Mul.j0]
    exact Ev.pos h (Ev.now _)
theorem mul_inf {a b : Int} (ha : U a) (hb : U b) (h0 : (isNan a || isNan b) = false) (h1 : mag a = INF ∨ mag b = INF) (h2 : infZero a b = false) : Ev (fun k => soft_Mul.f k a b) (signed (neg a != neg b) INF, 0) := by
  refine mul_kinds ha hb h0 (Ev.succ ?_)
  simp only [soft_Mul.j0]
  refine Ev.neg (by rw [h2]; decide) ?_
  by_cases c : kindOf (mag a) = 4
  · refine Ev.pos c (Ev.succ ?_)
    simp only [soft_Mul.j1]
    exact Ev.pos trivial (Ev.call (make_inf _) (Ev.now _))
  · refine Ev.neg c (Ev.succ ?_)
    simp only [soft_Mul.j1]
    exact Ev.pos (beq_iff_eq.mpr (kind_inf.mpr (by rcases h1 with h | h; exact absurd (kind_inf.mpr h) c; exact h))) (Ev.call (make_inf _) (Ev.now _))
/-- MUL: of two numbers. -/
theorem mul_fin {a b : Int} (ha : U a) (hb : U b) (fa : fin a) (fb : fin b) : ∃ r f, Ev (fun k => soft_Mul.f k a b) (r, f) ∧ Rd (val a * val b) (neg a != neg b) r f := by
  have ka : kindOf (mag a) ≠ 4 := fun h => by have := kind_inf.mp h; unfold fin at fa; omega
  have kb : kindOf (mag b) ≠ 4 := fun h => by have := kind_inf.mp h; unfold fin at fb; omega
  have iz : infZero a b = false := by
    have h1 : mag a ≠ INF := fun h => ka (kind_inf.mpr h)
    have h2 : mag b ≠ INF := fun h => kb (kind_inf.mpr h)
    unfold infZero; simp [h1, h2]
  obtain ⟨M, E, pa, m0, m1, e0, e1, va, za⟩ := Parts_fin ha fa
  obtain ⟨N, G, pb, n0, n1, g0, g1, vb, zb⟩ := Parts_fin hb fb
  obtain ⟨h, l, ew, u1, u2, ev⟩ := wide_Mul_eq (a := M) (b := N) ⟨m0, by omega⟩ ⟨n0, by omega⟩
  have hx : rabs (val a * val b) = ((M * N : Int) : Rat) * pw (E + G) := by
    have e : rabs (val a * val b) = vm (mag a) * vm (mag b) := by
      have p1 := vm_nonneg (mag_lt (a := a)).1
      have p2 := vm_nonneg (mag_lt (a := b)).1
      have p3 := Rat.mul_nonneg p1 p2
      rw [val_eq a, val_eq b]
      unfold rabs
      cases neg a <;> cases neg b <;> simp <;> grind
    rw [e, va, vb, pw_add]; push_cast; grind
  have start : ∀ rf : Int × Int, Ev (fun k => round_Round.f k (neg a != neg b) h l (E + G) false) rf → Ev (fun k => soft_Mul.f k a b) rf := by
    intro rf hr
    refine mul_kinds ha hb (by rw [fin_nan fa, fin_nan fb]; rfl) (Ev.succ ?_)
    simp only [soft_Mul.j0]
    refine Ev.neg (by rw [iz]; decide) (Ev.neg ka (Ev.succ ?_))
    simp only [soft_Mul.j1]
    refine Ev.neg (by simpa using kb) (Ev.bind pa (Ev.bind pb (Ev.call ew ?_)))
    dsimp only
    rw [w64 (x := E + G) (by omega) (by omega)]
    exact Ev.bind hr (Ev.now _)
  by_cases z : M * N = 0
  · rw [z] at ev hx
    have hl := wv_inj u1 u2 U_0 U_0 (by rw [ev]; rfl)
    obtain ⟨rfl, rfl⟩ := hl
    refine ⟨_, _, start _ (round_Round_zero _ _), ⟨fun _ => ⟨rfl, rfl⟩, fun hne => absurd ?_ hne⟩⟩
    have : rabs (val a * val b) = 0 := by rw [hx]; grind
    unfold rabs at this; grind
  · have hpos : 0 < M * N := by have := Int.mul_nonneg m0 n0; omega
    obtain ⟨m, f, er, rb⟩ := round_Round_ev (neg a != neg b) u1 u2 (E := E + G) (by omega) (by omega) false (x := rabs (val a * val b)) (by rw [ev]; exact hpos)
      (fun _ => by rw [ev]; exact hx) (fun h => by cases h)
    have hne : val a * val b ≠ 0 := by
      intro h0
      have h1 : rabs (val a * val b) = 0 := by rw [h0]; rfl
      rw [hx] at h1
      have : (0 : Int) * pw (E + G) < ((M * N : Int) : Rat) * pw (E + G) := mul_pw_lt.mpr hpos
      rw [h1] at this
      grind
    refine ⟨_, _, start _ er, ⟨fun h0 => absurd h0 hne, fun _ => ⟨m, rb, ?_⟩⟩⟩
    congr 1
    have p1 : 0 < vm (mag a) := by
      have : mag a ≠ 0 := fun hz => by rw [za.mpr hz] at hpos; omega
      exact vm_pos (by have := (mag_lt (a := a)).1; omega)
    have p2 : 0 < vm (mag b) := by
      have : mag b ≠ 0 := fun hz => by rw [zb.mpr hz] at hpos; omega
      exact vm_pos (by have := (mag_lt (a := b)).1; omega)
    have p3 := Rat.mul_pos p1 p2
    rw [val_eq a, val_eq b]
    cases neg a <;> cases neg b <;> simp <;> grind
def MulR (a b r f : Int) : Prop :=
  if (isNan a || isNan b) = true then r = QNAN ∧ f = nanF a b
  else if infZero a b = true then r = QNAN ∧ f = 16
  else if mag a = INF ∨ mag b = INF then r = signed (neg a != neg b) INF ∧ f = 0
  else Rd (val a * val b) (neg a != neg b) r f
theorem mul_ev {a b : Int} (ha : U a) (hb : U b) : ∃ r f, Ev (fun k => soft_Mul.f k a b) (r, f) ∧ MulR a b r f := by
  unfold MulR
  by_cases h : (isNan a || isNan b) = true
  · exact ⟨_, _, mul_nan ha hb h, by rw [if_pos h]; exact ⟨rfl, rfl⟩⟩
  · obtain ⟨h0, na, nb⟩ := nan_or h
    by_cases iz : infZero a b = true
    · exact ⟨_, _, mul_infzero ha hb iz, by rw [if_neg h, if_pos iz]; exact ⟨rfl, rfl⟩⟩
    · by_cases i : mag a = INF ∨ mag b = INF
      · exact ⟨_, _, mul_inf ha hb h0 i (by simpa using iz), by rw [if_neg h, if_neg iz, if_pos i]; exact ⟨rfl, rfl⟩⟩
      · obtain ⟨r, f, ev, rd⟩ := mul_fin ha hb (fin_of na (fun h => i (.inl h))) (fin_of nb (fun h => i (.inr h)))
        exact ⟨r, f, ev, by rw [if_neg h, if_neg iz, if_neg i]; exact rd⟩
theorem MulR.unique {a b r f r' f' : Int} (h : MulR a b r f) (h' : MulR a b r' f') : r = r' ∧ f = f' := by
  unfold MulR at h h'
  by_cases c1 : (isNan a || isNan b) = true
  · rw [if_pos c1] at h h'; omega
  · rw [if_neg c1] at h h'
    by_cases c2 : infZero a b = true
    · rw [if_pos c2] at h h'; omega
    · rw [if_neg c2] at h h'
      by_cases c3 : mag a = INF ∨ mag b = INF
      · rw [if_pos c3] at h h'; omega
      · rw [if_neg c3] at h h'; exact h.unique h'
theorem MulR.fin {a b r f : Int} (fa : fin a) (fb : fin b) : MulR a b r f ↔ Rd (val a * val b) (neg a != neg b) r f := by
  have : infZero a b = false := by unfold infZero; simp [not_inf fa, not_inf fb]
  unfold MulR; rw [fin_nan fa, fin_nan fb, this, if_neg (by decide), if_neg (by decide), if_neg (by rintro (h | h); exact not_inf fa h; exact not_inf fb h)]
theorem MulR.flags {a b r f : Int} (h : MulR a b r f) : 0 ≤ f ∧ f ≤ 16 := by
  have := nanF_le a b
  unfold MulR at h
  split at h
  · omega
  · split at h
    · omega
    · split at h
      · omega
      · exact h.flags
theorem MulR.range {a b r f : Int} (h : MulR a b r f) : U r := by
  unfold MulR at h
  have q : U QNAN := by unfold QNAN U; decide
  split at h
  · rw [h.1]; exact q
  · split at h
    · rw [h.1]; exact q
    · split at h
      · rw [h.1]; exact U_signed INF_lt.1 INF_lt.2
      · exact h.range.1

theorem word_Finite_eq {a : Int} (h : U a) : word_Finite.f a = some (decide (fin a)) := by
  unfold word_Finite.f
  rw [word_Exp_eq h]
  simp only [Option.bind_some]
  congr 1
  apply decide_eq_decide.mpr
  obtain ⟨h0, h1⟩ := h
  unfold fin mag INF
  constructor <;> intro h <;> omega
theorem U_of_wf {a : Int} (h : (Lit.int .u64 a).wf = true) : U a := by
  simp [Lit.wf, IntKind.min, IntKind.max, IntKind.signed, IntKind.bits] at h
  unfold U; omega
end Gim
namespace Gim
open Go Go.RowKit Go.Proofs.YtkkfghecmhmdpaaDoorW.PrintWords Go.Proofs.YtkkfghecmhmdpaaDoorW.PrintLast Go.Proofs.YtkkfghecmhmdpaaDoorW.PrintMore
set_option linter.unusedVariables false

/-- What is answered from some number of rounds on, if anything is. -/
noncomputable def resOf {α : Type} [Inhabited α] (g : Nat → Option α) : α := open Classical in if h : ∃ r, Ev g r then Classical.choose h else default
theorem Ev.resE {α : Type} [Inhabited α] {g : Nat → Option α} {r : α} (h : Ev g r) : Ev g (resOf g) := by
  unfold resOf
  rw [dif_pos ⟨r, h⟩]
  exact Classical.choose_spec (p := fun r => Ev g r) ⟨r, h⟩
end Gim
namespace Gim
open Go Go.RowKit Go.Proofs.YtkkfghecmhmdpaaDoorW.PrintWords Go.Proofs.YtkkfghecmhmdpaaDoorW.PrintLast Go.Proofs.YtkkfghecmhmdpaaDoorW.PrintMore Go.Proofs.YtkkfghecmhmdpaaDoor.F
set_option linter.unusedVariables false

/-- Flags as they are remembered: eight bits. -/
def F8 (f : Int) : Prop := 0 ≤ f ∧ f < 256
def B8 (f : Int) : BitVec 8 := BitVec.ofInt 8 f
theorem or8_eq (x y : Int) : Go.bits .or .u8 x y = ((B8 x ||| B8 y).toNat : Int) := by
  have e : Go.bits .or .u8 x y = IntKind.u8.wrap ((BitVec.ofInt 8 x ||| BitVec.ofInt 8 y).toNat : Int) := rfl
  rw [e]
  unfold B8
  generalize (BitVec.ofInt 8 x ||| BitVec.ofInt 8 y) = v
  have := v.isLt
  simp [IntKind.wrap, IntKind.bits, IntKind.signed]
  omega
theorem F8_or (x y : Int) : F8 (Go.bits .or .u8 x y) := by
  rw [or8_eq]
  have := (B8 x ||| B8 y).isLt
  exact ⟨by omega, by omega⟩
theorem B8_or (x y : Int) : B8 (Go.bits .or .u8 x y) = B8 x ||| B8 y := by
  rw [or8_eq]
  show BitVec.ofInt 8 ((B8 x ||| B8 y).toNat : Int) = _
  rw [BitVec.ofInt_natCast, BitVec.ofNat_toNat, BitVec.setWidth_eq]
noncomputable def aP (a b : Int) : Int × Int := resOf (fun k => soft_Add.f k a b)
noncomputable def mP (a b : Int) : Int × Int := resOf (fun k => soft_Mul.f k a b)
noncomputable def av (a b : Int) : Int := (aP a b).1
noncomputable def af (a b : Int) : BitVec 8 := B8 (aP a b).2
noncomputable def mv (a b : Int) : Int := (mP a b).1
noncomputable def mf (a b : Int) : BitVec 8 := B8 (mP a b).2
theorem aP_ev {a b : Int} (ha : U a) (hb : U b) : Ev (fun k => soft_Add.f k a b) (aP a b) := by
  obtain ⟨r, f, ev, R⟩ := add_ev ha hb
  exact Ev.resE ev
theorem aP_R {a b : Int} (ha : U a) (hb : U b) : AddR a b (aP a b).1 (aP a b).2 := by
  obtain ⟨r, f, ev, R⟩ := add_ev ha hb
  rw [Ev.det (aP_ev ha hb) ev]
  exact R
theorem mP_ev {a b : Int} (ha : U a) (hb : U b) : Ev (fun k => soft_Mul.f k a b) (mP a b) := by
  obtain ⟨r, f, ev, R⟩ := mul_ev ha hb
  exact Ev.resE ev
theorem mP_R {a b : Int} (ha : U a) (hb : U b) : MulR a b (mP a b).1 (mP a b).2 := by
  obtain ⟨r, f, ev, R⟩ := mul_ev ha hb
  rw [Ev.det (mP_ev ha hb) ev]
  exact R
theorem av_U {a b : Int} (ha : U a) (hb : U b) : U (av a b) := (aP_R ha hb).range ha hb
theorem mv_U {a b : Int} (ha : U a) (hb : U b) : U (mv a b) := (mP_R ha hb).range
theorem rd_U {l : List Int} (h : ∀ x ∈ l, U x) (i : Nat) : U (rd l (i : Int)) := by
  unfold rd
  rw [Int.toNat_natCast, List.getD_eq_getElem?_getD]
  by_cases c : i < l.length
  · rw [List.getElem?_eq_getElem c]; exact h _ (List.getElem_mem c)
  · rw [List.getElem?_eq_none (by omega)]; exact ⟨by decide, by decide⟩

noncomputable def dS (x y : Nat → Int) : Nat → Int
  | 0 => 0
  | n + 1 => av (dS x y n) (mv (x n) (y n))
theorem dS_U {x y : Nat → Int} (hx : ∀ i, U (x i)) (hy : ∀ i, U (y i)) : ∀ n, U (dS x y n)
  | 0 => show U 0 from ⟨by decide, by decide⟩
  | n + 1 => av_U (dS_U hx hy n) (mv_U (hx n) (hy n))

theorem keep {a : Int} (ha : U a) (fa : fin a) {x : Rat} {z : Bool} {r f : Int} (h : Rd x z r f) (hx : x = val a) (hz : mag a = 0 → z = neg a) : r = a ∧ f = 0 := by
  by_cases h0 : mag a = 0
  · have hx0 : x = 0 := by rw [hx]; exact val_zero_iff.mpr h0
    obtain ⟨e, hf⟩ := h.zero hx0
    refine ⟨?_, hf⟩
    rw [e, hz h0]
    have := signed_eta ha
    rw [h0] at this
    exact this
  · subst hx
    have := h.unique (Rd.self ha fa h0 z)
    exact this
theorem mulRd {a b r f : Int} (fa : fin a) (fb : fin b) (h : MulR a b r f) : Rd (val a * val b) (neg a != neg b) r f := by
  unfold MulR at h
  have n1 := not_inf fa
  have n2 := not_inf fb
  have hz : infZero a b = false := by unfold infZero; simp [n1, n2]
  rw [if_neg (by rw [fin_nan fa, fin_nan fb]; decide), if_neg (by rw [hz]; decide), if_neg (by rintro (h | h) <;> contradiction)] at h
  exact h
theorem addRd {a b r f : Int} (fa : fin a) (fb : fin b) (h : AddR a b r f) : Rd (val a + val b) (neg a && neg b) r f := (AddR.fin fa fb).mp h
theorem mv_Rd {a b : Int} (ha : U a) (hb : U b) (fa : fin a) (fb : fin b) : Rd (val a * val b) (neg a != neg b) (mv a b) (mP a b).2 := mulRd fa fb (mP_R ha hb)
theorem av_Rd {a b : Int} (ha : U a) (hb : U b) (fa : fin a) (fb : fin b) : Rd (val a + val b) (neg a && neg b) (av a b) (aP a b).2 := addRd fa fb (aP_R ha hb)
theorem U_zero_ : U 0 := ⟨by decide, by decide⟩
theorem fin_zero : fin 0 := by decide
theorem val_zero : val 0 = 0 := val_zero_iff.mpr (by decide)

/-- A sum of rational numbers. -/
def sm (g : Nat → Rat) : Nat → Rat
  | 0 => 0
  | n + 1 => sm g n + g n
theorem sm_nonneg {g : Nat → Rat} (h : ∀ k, 0 ≤ g k) : ∀ n, 0 ≤ sm g n
  | 0 => by simp [sm]
  | n + 1 => by
    have := sm_nonneg h n
    have := h n
    simp only [sm]
    grind
section
variable {x y : Nat → Int} (hx : ∀ i, U (x i)) (hy : ∀ i, U (y i))
include hx hy
end

theorem RB.huge {x : Rat} {b f : Int} (h : RB x b f) (hx : pw 1024 ≤ x) : b = INF ∧ f = 5 := by
  obtain ⟨q, n, hr, rfl, rfl⟩ := h.ex
  have e53 : ((9007199254740992 : Int) : Rat) = pw 53 := by rw [pw_p2 (by decide)]; rfl
  have h1 : pw 1024 < pw (53 + q) := by rw [pw_add, ← e53]; exact Std.lt_of_le_of_lt hx hr.hi
  have hq : 972 ≤ q := by
    refine Decidable.byContradiction fun hc => ?_
    have := pw_mono (show 53 + q ≤ 1024 by omega)
    grind
  have hn : 4503599627370496 ≤ n := by rcases hr.n_ge' with h | h <;> omega
  have e : ¬ enc q n < INF := by unfold enc INF; omega
  rw [if_neg e, if_neg e]; exact ⟨rfl, rfl⟩
theorem RB.small {x : Rat} {b f : Int} (h : RB x b f) (hx : x < pw (-1075)) : b = 0 ∧ f = 3 := by
  obtain ⟨q, n, hr, rfl, rfl⟩ := h.ex
  have e52 : ((4503599627370496 : Int) : Rat) = pw 52 := by rw [pw_p2 (by decide)]; rfl
  have hq : q = -1074 := by
    rcases hr.lo with h | h
    · exact h
    · rw [e52, ← pw_add] at h
      have h2 : pw (52 + q) < pw (-1075) := Std.lt_of_le_of_lt h hx
      have h3 := hr.hq
      have := pw_mono (show -1075 ≤ 52 + q by omega)
      grind
  subst hq
  have h1 := hr.near2
  have e2 := pw_pred (-1074)
  have hn : n ≤ 0 := by
    refine Decidable.byContradiction fun hc => ?_
    have h3 : ((1 : Int) : Rat) * pw (-1074) ≤ ((2 * n - 1 : Int) : Rat) * pw (-1074) := mul_pw_le.mpr (by omega)
    rw [show (-1074 : Int) - 1 = -1075 from by decide] at e2
    have e3 : ((1 : Int) : Rat) * pw (-1074) = pw (-1074) := by simp
    grind
  have hn0 := hr.n_nonneg
  obtain rfl : n = 0 := by omega
  have e : enc (-1074) 0 < INF := by decide
  have hp := hr.pos
  have hm := pw_mono (show (-1075 : Int) ≤ -1022 by decide)
  rw [if_pos e, if_pos e, if_neg (by simp; grind), if_pos (by grind)]
  exact ⟨rfl, rfl⟩

def ScaleR (a c r f : Int) : Prop :=
  if isNan a = true then r = QNAN ∧ f = (if signals a then 16 else 0)
  else if mag a = INF ∨ mag a = 0 then r = a ∧ f = 0
  else Rd (val a * pw c) (neg a) r f
theorem val_scale (a c : Int) : val a * pw c = (sgd (neg a) (mant (mag a)) : Rat) * pw (expo (mag a) + c) := by
  rw [val_mant, pw_add]; grind
theorem sgd_neg (s : Bool) {X : Int} (hX : 0 < X) : sgd s X < 0 ↔ s = true := by unfold sgd; cases s <;> simp <;> omega
theorem sgd_zero (s : Bool) {X : Int} : sgd s X = 0 ↔ X = 0 := by unfold sgd; cases s <;> simp
/-- A rounded magnitude, with its sign. -/
theorem Rd.of_sgd (s : Bool) {X E m f : Int} (hX : 0 < X) (z : Bool) (h : RB ((X : Rat) * pw E) m f) : Rd ((sgd s X : Rat) * pw E) z (signed s m) f := by
  refine ⟨fun h0 => ?_, fun _ => ⟨m, by rw [rabs_sgd s (by omega)]; exact h, ?_⟩⟩
  · have := (sgd_zero s).mp (int_pw_zero.mp h0); omega
  · congr 1
    rw [Bool.eq_iff_iff, decide_eq_true_eq, int_pw_neg, sgd_neg s hX]
theorem ScaleR.unique {a c c' r f r' f' : Int} (h : ScaleR a c r f) (h' : ScaleR a c' r' f') (hc : c = c' ∨ (5000 ≤ c ∧ 5000 ≤ c') ∨ (c ≤ -5000 ∧ c' ≤ -5000)) : r = r' ∧ f = f' := by
  unfold ScaleR at h h'
  by_cases c1 : isNan a = true
  · rw [if_pos c1] at h h'; omega
  · rw [if_neg c1] at h h'
    by_cases c2 : mag a = INF ∨ mag a = 0
    · rw [if_pos c2] at h h'; omega
    · rw [if_neg c2] at h h'
      rcases hc with hc | hc
      · subst hc; exact h.unique h'
      · have fa : fin a := fin_of (by simpa using c1) (fun hh => c2 (.inl hh))
        obtain ⟨e1, e2⟩ := fin_expo fa
        have m0 := mant_pos (m := mag a) (by have := (mag_lt (a := a)).1; omega)
        have m1 := mant_lt (m := mag a)
        have e53 : ((9007199254740992 : Int) : Rat) = pw 53 := by rw [pw_p2 (by decide)]; rfl
        have key : ∀ c r f, Rd (val a * pw c) (neg a) r f → ∃ m, r = signed (neg a) m ∧ RB ((mant (mag a) : Rat) * pw (expo (mag a) + c)) m f := by
          intro c r f h
          rw [val_scale] at h
          obtain ⟨m, rb, e⟩ := h.num (fun h0 => by have := (sgd_zero _).mp (int_pw_zero.mp h0); omega)
          rw [rabs_sgd _ (by omega)] at rb
          refine ⟨m, ?_, rb⟩
          rw [e]; congr 1
          rw [Bool.eq_iff_iff, decide_eq_true_eq, int_pw_neg, sgd_neg _ m0]
        have big : ∀ c m f, 5000 ≤ c → RB ((mant (mag a) : Rat) * pw (expo (mag a) + c)) m f → m = INF ∧ f = 5 := by
          intro c m f hc rb
          refine rb.huge ?_
          have h1 : ((1 : Int) : Rat) * pw (expo (mag a) + c) ≤ (mant (mag a) : Rat) * pw (expo (mag a) + c) := mul_pw_le.mpr (by omega)
          have h2 := pw_mono (show (1024 : Int) ≤ expo (mag a) + c by omega)
          have e3 : ((1 : Int) : Rat) * pw (expo (mag a) + c) = pw (expo (mag a) + c) := by simp
          grind
        have low : ∀ c m f, c ≤ -5000 → RB ((mant (mag a) : Rat) * pw (expo (mag a) + c)) m f → m = 0 ∧ f = 3 := by
          intro c m f hc rb
          refine rb.small ?_
          have h1 : (mant (mag a) : Rat) * pw (expo (mag a) + c) < ((9007199254740992 : Int) : Rat) * pw (expo (mag a) + c) := mul_pw_lt.mpr m1
          rw [e53, ← pw_add] at h1
          exact Std.lt_of_lt_of_le h1 (pw_mono (by omega))
        obtain ⟨m, rfl, rb⟩ := key c r f h
        obtain ⟨m', rfl, rb'⟩ := key c' r' f' h'
        rcases hc with ⟨h1, h2⟩ | ⟨h1, h2⟩
        · obtain ⟨rfl, rfl⟩ := big c m f h1 rb
          obtain ⟨rfl, rfl⟩ := big c' m' f' h2 rb'
          exact ⟨rfl, rfl⟩
        · obtain ⟨rfl, rfl⟩ := low c m f h1 rb
          obtain ⟨rfl, rfl⟩ := low c' m' f' h2 rb'
          exact ⟨rfl, rfl⟩
theorem ScaleR.flags {a c r f : Int} (h : ScaleR a c r f) : 0 ≤ f ∧ f ≤ 16 := by
  unfold ScaleR at h
  split at h
  · split at h <;> omega
  · split at h
    · omega
    · exact h.flags
theorem ScaleR.range {a c r f : Int} (ha : U a) (h : ScaleR a c r f) : U r := by
  unfold ScaleR at h
  split at h
  · rw [h.1]; exact ⟨by decide, by decide⟩
  · split at h
    · rw [h.1]; exact ha
    · exact h.range.1
/-- THE PROGRAM's PRODUCT WITH A POWER OF TWO. -/
theorem more_Scale_ev {a : Int} (ha : U a) (n : Int) : ∃ r f, Ev (fun k => more_Scale.f k a n) (r, f) ∧ ScaleR a (mx (-10000) (mn n 10000)) r f := by
  unfold ScaleR
  have hk := word_Kind_ev ha
  rw [kind_mag] at hk
  by_cases h : isNan a = true
  · refine ⟨QNAN, _, ?_, by rw [if_pos h]; exact ⟨rfl, rfl⟩⟩
    unfold more_Scale.f
    refine Ev.bind hk (Ev.pos (kind_nan.mpr h) (Ev.bind (word_Signals_ev ha) ?_))
    cases hs : signals a
    · exact Ev.neg (by decide) (Ev.now _)
    · exact Ev.pos rfl (Ev.now _)
  · have n5 : ¬ kindOf (mag a) = 5 := fun hh => h (kind_nan.mp hh)
    have start : ∀ r : Int × Int, Ev (fun k => more_Scale.j0 k a n (decide (mag a = INF ∨ mag a = 0))) r → Ev (fun k => more_Scale.f k a n) r := by
      intro r hr
      unfold more_Scale.f
      refine Ev.bind hk (Ev.neg n5 ?_)
      by_cases i : mag a = INF
      · have k4 := kind_inf.mpr i
        rw [decide_eq_true (.inl i)] at hr
        refine Ev.pos k4 ?_
        first | exact hr | (rw [k4]; exact hr)
      · refine Ev.neg (fun hh => i (kind_inf.mp hh)) ?_
        have e : decide (mag a = INF ∨ mag a = 0) = (kindOf (mag a) == 1) := by
          rw [Bool.eq_iff_iff]; simp [i, kind_zero]
        rw [e] at hr
        exact hr
    by_cases c : mag a = INF ∨ mag a = 0
    · refine ⟨a, 0, start _ (Ev.succ ?_), by rw [if_neg h, if_pos c]; exact ⟨rfl, rfl⟩⟩
      simp only [more_Scale.j0]
      exact Ev.pos (decide_eq_true c) (Ev.now _)
    · rw [decide_eq_false c] at start
      have fa : fin a := fin_of (by simpa using h) (fun hh => c (.inl hh))
      have m0' : 0 < mag a := by have := (mag_lt (a := a)).1; omega
      have pa := word_Parts_ev ha m0' fa
      obtain ⟨e1, e2⟩ := fin_expo fa
      have m0 := mant_pos m0'
      have uM := mant_U a
      have emag : a % 9223372036854775808 = mag a := rfl
      rw [emag] at pa
      have hc : -10000 ≤ mx (-10000) (mn n 10000) ∧ mx (-10000) (mn n 10000) ≤ 10000 := by unfold mx mn; split <;> split <;> omega
      have eW : wv 0 (mant (mag a)) = mant (mag a) := by unfold wv; omega
      generalize hd : mx (-10000) (mn n 10000) = d at *
      obtain ⟨m, f, ev, rb⟩ := round_Round_ev (neg a) (h := 0) (l := mant (mag a)) (E := expo (mag a) + d) U_0 uM (by omega) (by omega) false (x := (mant (mag a) : Rat) * pw (expo (mag a) + d)) (by rw [eW]; exact m0) (fun _ => by rw [eW]) (fun h => by cases h)
      refine ⟨signed (neg a) m, f, start _ (Ev.succ ?_), ?_⟩
      · simp only [more_Scale.j0]
        refine Ev.neg (by decide) (Ev.bind pa (Ev.call (word_Neg_eq ha) ?_))
        rw [hd, neg_def]
        dsimp only
        rw [w64 (x := expo (mag a) + d) (by omega) (by omega)]
        exact Ev.bind ev (Ev.now _)
      · rw [if_neg h, if_neg c, val_scale]
        exact Rd.of_sgd _ m0 _ rb

theorem rd_at {l : List Int} {i : Nat} (h : i < l.length) : rd l (i : Int) = l[i] := by
  unfold rd; simp [List.getD_eq_getElem?_getD, h]
theorem greatest_l0 {l : List Int} (hl : ∀ x ∈ l, U x) (hn : l.length ≤ 1000000) : ∀ t i : Nat, l.length - i = t → i ≤ l.length → ∀ m j : Int, 0 ≤ m → m < 9223372036854775808 →
    ∃ m' j', Ev (fun K => order_Greatest.l0 K m j l l.length i) (m', j') ∧ ((0 ≤ m' ∧ m' < 9223372036854775808) ∨ m' = 9221120237041090560) := by
  intro t
  induction t with
  | zero =>
    intro i h1 h2 m j m0 m1
    refine ⟨m, j, Ev.succ ?_, .inl ⟨m0, m1⟩⟩
    simp only [order_Greatest.l0]
    exact Ev.neg (by omega) (Ev.now _)
  | succ t ih =>
    intro i h1 h2 m j m0 m1
    have hi : i < l.length := by omega
    have hu := hl _ (List.getElem_mem hi)
    have hm : 0 ≤ l[i] % 9223372036854775808 ∧ l[i] % 9223372036854775808 < 9223372036854775808 := by omega
    have hk := word_Kind_ev hu
    have ha := word_Abs_eq hu
    by_cases k5 : kindOf (l[i] % 9223372036854775808) = 5
    · refine ⟨9221120237041090560, (i : Int), Ev.succ ?_, .inr rfl⟩
      simp only [order_Greatest.l0]
      rw [rd_at hi]
      exact Ev.pos (by omega) (Ev.pos (by omega) (Ev.pos (by omega) (Ev.bind hk (Ev.pos k5 (Ev.now _)))))
    · have go : ∀ m j : Int, 0 ≤ m → m < 9223372036854775808 → ∃ m' j', Ev (fun K => order_Greatest.l0 K m j l l.length ((i : Int) + 1)) (m', j') ∧ ((0 ≤ m' ∧ m' < 9223372036854775808) ∨ m' = 9221120237041090560) := fun m j a b => ih (i + 1) (by omega) (by omega) m j a b
      by_cases c1 : j < 0
      · obtain ⟨m', j', ev, q⟩ := go (l[i] % 9223372036854775808) i hm.1 hm.2
        refine ⟨m', j', Ev.succ ?_, q⟩
        simp only [order_Greatest.l0]
        rw [rd_at hi, w64 (x := (i : Int) + 1) (by omega) (by omega)]
        exact Ev.pos (by omega) (Ev.pos (by omega) (Ev.pos (by omega) (Ev.bind hk (Ev.neg k5 (Ev.pos c1 (Ev.call ha ev))))))
      · by_cases c2 : l[i] % 9223372036854775808 > m
        · obtain ⟨m', j', ev, q⟩ := go (l[i] % 9223372036854775808) i hm.1 hm.2
          refine ⟨m', j', Ev.succ ?_, q⟩
          simp only [order_Greatest.l0]
          rw [rd_at hi, w64 (x := (i : Int) + 1) (by omega) (by omega)]
          exact Ev.pos (by omega) (Ev.pos (by omega) (Ev.pos (by omega) (Ev.bind hk (Ev.neg k5 (Ev.neg c1 (Ev.call ha (Ev.pos c2 (Ev.call ha ev))))))))
        · obtain ⟨m', j', ev, q⟩ := go m j m0 m1
          refine ⟨m', j', Ev.succ ?_, q⟩
          simp only [order_Greatest.l0]
          rw [rd_at hi, w64 (x := (i : Int) + 1) (by omega) (by omega)]
          exact Ev.pos (by omega) (Ev.pos (by omega) (Ev.pos (by omega) (Ev.bind hk (Ev.neg k5 (Ev.neg c1 (Ev.call ha (Ev.neg c2 ev)))))))
theorem greatest_ev {l : List Int} (hl : ∀ x ∈ l, U x) (hn : l.length ≤ 1000000) : ∃ m j, Ev (fun K => order_Greatest.f K l) (m, j) ∧ U m := by
  obtain ⟨m, j, ev, q⟩ := greatest_l0 hl hn l.length 0 (by omega) (by omega) 0 (-1) (by decide) (by decide)
  refine ⟨m, j, ev, ?_⟩
  rcases q with ⟨a, b⟩ | rfl
  · exact ⟨a, by omega⟩
  · exact ⟨by decide, by decide⟩
/-- A pattern times a power of two, as the program's layer 5 tells. -/
noncomputable def sc (n x : Int) : Int × Int := resOf (fun k => more_Scale.f k x n)
theorem sc_ev {n x : Int} (hx : U x) : Ev (fun k => more_Scale.f k x n) (sc n x) := by
  obtain ⟨r, f, ev, _⟩ := more_Scale_ev hx n
  exact Ev.resE ev
theorem sc_U {n x : Int} (hx : U x) : U (sc n x).1 := by
  obtain ⟨r, f, ev, R⟩ := more_Scale_ev hx n
  rw [Ev.det (sc_ev hx) ev]
  exact R.range hx
theorem unit_l0 {l : List Int} (hl : ∀ x ∈ l, U x) (hn : l.length ≤ 1000000) {e : Int} (e0 : -20000 ≤ e) (e1 : e ≤ 20000) : ∀ t i : Nat, l.length - i = t → i ≤ l.length →
    Ev (fun K => vec_Unit.l0 K e ((l.take i).map (fun x => (sc (-e) x).1)) l l.length i) (l.map (fun x => (sc (-e) x).1)) := by
  intro t
  induction t with
  | zero =>
    intro i h1 h2
    obtain rfl : i = l.length := by omega
    refine Ev.succ ?_
    simp only [vec_Unit.l0]
    rw [List.take_length]
    exact Ev.neg (by omega) (Ev.now _)
  | succ t ih =>
    intro i h1 h2
    have hi : i < l.length := by omega
    have hu := hl _ (List.getElem_mem hi)
    have h := ih (i + 1) (by omega) (by omega)
    rw [List.take_succ_eq_append_getElem hi, List.map_append] at h
    refine Ev.succ ?_
    simp only [vec_Unit.l0]
    rw [rd_at hi, w64 (x := -e) (by omega) (by omega), w64 (x := (i : Int) + 1) (by omega) (by omega)]
    have p1 : ((l.take i).map (fun x => (sc (-e) x).1)).length < 17592186044416 := by
      rw [List.length_map, List.length_take]
      exact Nat.lt_of_le_of_lt (Nat.min_le_right _ _) (Nat.lt_of_le_of_lt hn (by decide))
    exact Ev.pos (by omega) (Ev.pos (by omega) (Ev.pos (by omega) (Ev.bind (sc_ev hu) (Ev.pos p1 h))))
theorem unit_ev {l : List Int} (hl : ∀ x ∈ l, U x) (hn : l.length ≤ 1000000) {e : Int} (e0 : -20000 ≤ e) (e1 : e ≤ 20000) : Ev (fun K => vec_Unit.f K l e) (l.map (fun x => (sc (-e) x).1)) := by
  unfold vec_Unit.f
  have : mx (-20000) (mn e 20000) = e := by unfold mx mn; grind
  rw [this]
  exact unit_l0 hl hn e0 e1 l.length 0 (by omega) (by omega)

theorem greatest_f0 {l : List Int} (hl : ∀ x ∈ l, U x ∧ fin x) (hn : l.length ≤ 1000000) : ∀ t i : Nat, l.length - i = t → i ≤ l.length → ∀ m j : Int, 0 ≤ m → m < INF → (j < 0 → m = 0) →
    ∃ m' j', Ev (fun K => order_Greatest.l0 K m j l l.length i) (m', j') ∧ m ≤ m' ∧ m' < INF ∧ (∀ k (h : k < l.length), i ≤ k → mag l[k] ≤ m') ∧ (m' = m ∨ ∃ x ∈ l, mag x = m') := by
  intro t
  induction t with
  | zero =>
    intro i h1 h2 m j m0 m1 hj
    refine ⟨m, j, Ev.succ ?_, Int.le_refl _, m1, fun k h hk => by omega, .inl rfl⟩
    simp only [order_Greatest.l0]
    exact Ev.neg (by omega) (Ev.now _)
  | succ t ih =>
    intro i h1 h2 m j m0 m1 hj
    have hi : i < l.length := by omega
    obtain ⟨hu, hf⟩ := hl _ (List.getElem_mem hi)
    have hm := mag_lt (a := l[i])
    have hk := word_Kind_ev hu
    have ha := word_Abs_eq hu
    have e0 : l[i] % 9223372036854775808 = mag l[i] := rfl
    rw [e0] at hk ha
    have k5 : ¬ kindOf (mag l[i]) = 5 := fun h => by have := (kind5 hm.1).mp h; unfold fin INF at hf; omega
    have go : ∀ m2 j2 : Int, 0 ≤ m2 → m2 < INF → (j2 < 0 → m2 = 0) → m ≤ m2 → mag l[i] ≤ m2 → (m2 = m ∨ m2 = mag l[i]) →
        (∀ r, Ev (fun K => order_Greatest.l0 K m2 j2 l l.length ((i : Int) + 1)) r → Ev (fun K => order_Greatest.l0 K m j l l.length i) r) →
        ∃ m' j', Ev (fun K => order_Greatest.l0 K m j l l.length i) (m', j') ∧ m ≤ m' ∧ m' < INF ∧ (∀ k (h : k < l.length), i ≤ k → mag l[k] ≤ m') ∧ (m' = m ∨ ∃ x ∈ l, mag x = m') := by
      intro m2 j2 a1 a2 a3 a4 a5 a6 step
      obtain ⟨m', j', ev, b1, b2, b3, b4⟩ := ih (i + 1) (by omega) (by omega) m2 j2 a1 a2 a3
      refine ⟨m', j', step _ ev, by omega, b2, fun k h hk => ?_, ?_⟩
      · by_cases c : k = i
        · subst c; omega
        · exact b3 k h (by omega)
      · rcases b4 with b4 | b4
        · rcases a6 with a6 | a6
          · exact .inl (by omega)
          · exact .inr ⟨_, List.getElem_mem hi, by omega⟩
        · exact .inr b4
    by_cases c1 : j < 0
    · have := hj c1
      refine go (mag l[i]) i hm.1 hf (by omega) (by omega) (Int.le_refl _) (.inr rfl) fun r ev => ?_
      refine Ev.succ ?_
      simp only [order_Greatest.l0]
      rw [rd_at hi, w64 (x := (i : Int) + 1) (by omega) (by omega)]
      exact Ev.pos (by omega) (Ev.pos (by omega) (Ev.pos (by omega) (Ev.bind hk (Ev.neg k5 (Ev.pos c1 (Ev.call ha ev))))))
    · by_cases c2 : mag l[i] > m
      · refine go (mag l[i]) i hm.1 hf (by omega) (by omega) (Int.le_refl _) (.inr rfl) fun r ev => ?_
        refine Ev.succ ?_
        simp only [order_Greatest.l0]
        rw [rd_at hi, w64 (x := (i : Int) + 1) (by omega) (by omega)]
        exact Ev.pos (by omega) (Ev.pos (by omega) (Ev.pos (by omega) (Ev.bind hk (Ev.neg k5 (Ev.neg c1 (Ev.call ha (Ev.pos c2 (Ev.call ha ev))))))))
      · refine go m j m0 m1 hj (Int.le_refl _) (by omega) (.inl rfl) fun r ev => ?_
        refine Ev.succ ?_
        simp only [order_Greatest.l0]
        rw [rd_at hi, w64 (x := (i : Int) + 1) (by omega) (by omega)]
        exact Ev.pos (by omega) (Ev.pos (by omega) (Ev.pos (by omega) (Ev.bind hk (Ev.neg k5 (Ev.neg c1 (Ev.call ha (Ev.neg c2 ev)))))))
/-- The greatest of numbers. -/
theorem greatest_fin {l : List Int} (hl : ∀ x ∈ l, U x ∧ fin x) (hn : l.length ≤ 1000000) : ∃ m j, Ev (fun K => order_Greatest.f K l) (m, j) ∧ 0 ≤ m ∧ m < INF ∧ (∀ x ∈ l, mag x ≤ m) ∧ (m = 0 ∨ ∃ x ∈ l, mag x = m) := by
  obtain ⟨m, j, ev, a1, a2, a3, a4⟩ := greatest_f0 hl hn l.length 0 (by omega) (by omega) 0 (-1) (by decide) (by decide) (fun _ => rfl)
  refine ⟨m, j, ev, a1, a2, fun x hx => ?_, ?_⟩
  · obtain ⟨k, h, rfl⟩ := List.getElem_of_mem hx
    exact a3 k h (by omega)
  · rcases a4 with h | h
    · exact .inl h
    · exact .inr h
theorem power_f0 {v : Rat} : ∀ t : Nat, ∀ n e : Int, n.toNat ≤ t → 0 < n → n < 9007199254740992 → -2000 ≤ e → e + blen n ≤ 2000 → (n : Rat) * pw e ≤ v → v < ((n + 1 : Int) : Rat) * pw e →
    ∃ e', Ev (fun K => vec_Power.l0 K n e) (e', true) ∧ -2000 ≤ e' ∧ e' ≤ 2000 ∧ pw e' ≤ v ∧ v < pw (e' + 1) := by
  intro t
  induction t with
  | zero => intro n e h1 h2; omega
  | succ t ih =>
    intro n e h1 h2 h3 h4 h5 h6 h7
    have b1 := blen_pos h2
    by_cases c : n > 1
    · have hb := blen_shift (x := n) (s := 1) (by decide) (by rw [p2_1]; omega)
      rw [p2_1] at hb
      have hp := pw_pos e
      have hs := pw_succ e
      have k1 : (n / 2 : Int) * pw (e + 1) ≤ v := by
        have : ((2 * (n / 2) : Int) : Rat) * pw e ≤ (n : Rat) * pw e := mul_pw_le.mpr (by omega)
        rw [hs]; push_cast at this; grind
      have k2 : v < ((n / 2 + 1 : Int) : Rat) * pw (e + 1) := by
        have : ((n + 1 : Int) : Rat) * pw e ≤ ((2 * (n / 2 + 1) : Int) : Rat) * pw e := mul_pw_le.mpr (by omega)
        rw [hs]; push_cast at this h7 ⊢; grind
      obtain ⟨e', ev, q⟩ := ih (n / 2) (e + 1) (by omega) (by omega) (by omega) (by omega) (by omega) k1 k2
      refine ⟨e', Ev.succ ?_, q⟩
      simp only [vec_Power.l0]
      rw [w64 (x := e + 1) (by omega) (by omega)]
      exact Ev.pos c ev
    · obtain rfl : n = 1 := by omega
      refine ⟨e, Ev.succ ?_, h4, by omega, by simpa using h6, ?_⟩
      · simp only [vec_Power.l0]
        exact Ev.neg c (Ev.now _)
      · rw [pw_succ]; push_cast at h7; grind
/-- The power of two beneath the greatest of numbers, if that isn't zero. -/
theorem power_fin {l : List Int} (hl : ∀ x ∈ l, U x ∧ fin x) (hn : l.length ≤ 1000000) : ∃ m j, Ev (fun K => order_Greatest.f K l) (m, j) ∧ 0 ≤ m ∧ m < INF ∧ (∀ x ∈ l, mag x ≤ m) ∧ (m = 0 ∨ ∃ x ∈ l, mag x = m) ∧
    (m = 0 → Ev (fun K => vec_Power.f K l) (0, false)) ∧
    (0 < m → ∃ e, Ev (fun K => vec_Power.f K l) (e, true) ∧ -2000 ≤ e ∧ e ≤ 2000 ∧ pw e ≤ vm m ∧ vm m < pw (e + 1)) := by
  obtain ⟨m, j, ev, a1, a2, a3, a4⟩ := greatest_fin hl hn
  have um : U m := ⟨a1, by have : INF < 18446744073709551616 := by decide
                           omega⟩
  have hI : INF < 9223372036854775808 := by decide
  have hmag : m % 9223372036854775808 = m := by omega
  refine ⟨m, j, ev, a1, a2, a3, a4, fun h => ?_, fun h => ?_⟩
  · unfold vec_Power.f
    exact Ev.bind ev (Ev.bind (word_Parts_none um (.inl (by omega))) (Ev.pos rfl (Ev.now _)))
  · have hp := word_Parts_ev um (by omega) (by rw [hmag]; exact a2)
    rw [hmag] at hp
    have mp := mant_pos h
    have ml := mant_lt (m := m)
    have hfin : fin m := by unfold fin mag; omega
    obtain ⟨e1, e2⟩ := fin_expo hfin
    have hmm : mag m = m := hmag
    rw [hmm] at e1 e2
    have hb : blen (mant m) ≤ 53 := blen_le (by decide) (by rw [show p2 53 = 9007199254740992 from by decide]; exact ml)
    have hp2 := pw_pos (expo m)
    obtain ⟨e', ev2, q⟩ := power_f0 (v := vm m) _ (mant m) (expo m) (Nat.le_refl _) mp ml (by omega) (by omega) Rat.le_refl (by unfold vm; exact mul_pw_lt.mpr (by omega))
    refine ⟨e', ?_, q⟩
    unfold vec_Power.f
    exact Ev.bind ev (Ev.bind hp (Ev.neg (by simp; omega) ev2))

theorem one_and8 (x : Int) : Go.bits .and .u8 1 x = 0 ∨ Go.bits .and .u8 1 x = 1 := by
  have e : Go.bits .and .u8 1 x = IntKind.u8.wrap ((BitVec.ofInt 8 1 &&& BitVec.ofInt 8 x).toNat : Int) := rfl
  have k : ∀ y : BitVec 8, (1#8 &&& y) = 0#8 ∨ (1#8 &&& y) = 1#8 := by decide
  have e1 : BitVec.ofInt 8 1 = 1#8 := rfl
  rw [e, e1]
  rcases k (BitVec.ofInt 8 x) with h | h
  · rw [h]; exact .inl rfl
  · rw [h]; exact .inr rfl
theorem sqrt_U {a r f : Int} (ha : U a) (h : SqrtR a r f) : U r := by
  unfold SqrtR at h
  split at h
  · rw [h.1]; exact ⟨by decide, by decide⟩
  · split at h
    · rw [h.1]; exact ha
    · split at h
      · rw [h.1]; exact ⟨by decide, by decide⟩
      · obtain ⟨W, E, h0, h54, h1, h2, h3, h4⟩ := h
        have hI : INF < 18446744073709551616 := by decide
        by_cases e : ((W : Rat) * pw E) * ((W : Rat) * pw E) = vm (mag a)
        · have := (h3 e).range
          exact ⟨this.1, by omega⟩
        · have hp := pw_pos E
          have := (h4 e ((W : Rat) * pw E + pw E / 2) (by grind) (by push_cast; grind)).range
          exact ⟨this.1, by omega⟩
theorem clampT {n : Int} (h0 : -10000 ≤ n) (h1 : n ≤ 10000) : mx (-10000) (mn n 10000) = n := by unfold mx mn; grind
theorem sc_R {n x : Int} (hx : U x) : ScaleR x (mx (-10000) (mn n 10000)) (sc n x).1 (sc n x).2 := by
  obtain ⟨r, f, ev, R⟩ := more_Scale_ev hx n
  rw [Ev.det (sc_ev hx) ev]
  exact R
theorem sc_R' {n x : Int} (hx : U x) (h0 : -10000 ≤ n) (h1 : n ≤ 10000) : ScaleR x n (sc n x).1 (sc n x).2 := by
  have := sc_R (n := n) hx
  rwa [clampT h0 h1] at this

theorem cAdd {F a b : Int} (ha : U a) (hb : U b) : ∃ F', Ev (fun k => soft_Calc_Add.f k F a b) (av a b, F') ∧ F8 F' ∧ B8 F' = B8 F ||| af a b := by
  refine ⟨Go.bits .or .u8 F (aP a b).2, ?_, F8_or _ _, B8_or _ _⟩
  unfold soft_Calc_Add.f
  exact Ev.bind (aP_ev ha hb) (Ev.call rfl (Ev.now _))
theorem cMul {F a b : Int} (ha : U a) (hb : U b) : ∃ F', Ev (fun k => soft_Calc_Mul.f k F a b) (mv a b, F') ∧ F8 F' ∧ B8 F' = B8 F ||| mf a b := by
  refine ⟨Go.bits .or .u8 F (mP a b).2, ?_, F8_or _ _, B8_or _ _⟩
  unfold soft_Calc_Mul.f
  exact Ev.bind (mP_ev ha hb) (Ev.call rfl (Ev.now _))

/-- The least number. -/
def eta : Rat := pw (-1074)
theorem eta_pos : 0 < eta := pw_pos _
theorem RB.errA {x : Rat} {m f : Int} (h : RB x m f) (hx : x ≤ pw 1000) : m < INF ∧ rabs (vm m - x) ≤ ulp * x + eta := by
  have hm : m < INF := by
    have hv6 : vm (enc 949 4503599627370496) = ((4503599627370496 : Int) : Rat) * pw 949 := vm_enc (by decide) (by decide) (by decide) (.inr (by decide))
    have e52 : ((4503599627370496 : Int) : Rat) = pw 52 := by rw [pw_p2 (by decide)]; rfl
    rw [e52, ← pw_add] at hv6
    have h6 : x ≤ vm (enc 949 4503599627370496) := by
      rw [hv6]
      have := pw_lt (a := 1000) (b := 52 + 949) (by decide)
      have := pw_pos 1000
      grind
    have rl := h.mono (RB.self (m := enc 949 4503599627370496) (by decide) (by decide)) h6
    have : enc 949 4503599627370496 < INF := by decide
    omega
  refine ⟨hm, ?_⟩
  have up := ulp_pos
  have ep := eta_pos
  by_cases c : pw (-1022) ≤ x
  · have := h.errN c hm
    grind
  · obtain ⟨q, n, hr, e1, e2⟩ := h.ex
    have hp := hr.pos
    by_cases c2 : enc q n < INF
    · rw [if_pos c2] at e1
      subst e1
      rw [hr.val_enc]
      have hq : q = -1074 := by
        rcases hr.lo with h1 | h1
        · exact h1
        · exfalso
          have e52 : ((4503599627370496 : Int) : Rat) = pw 52 := by rw [pw_p2 (by decide)]; rfl
          rw [e52, ← pw_add] at h1
          have := hr.hq
          have := pw_mono (a := -1022) (b := 52 + q) (by omega)
          grind
      subst hq
      have n1 := hr.near1
      have n2 := hr.near2
      push_cast at n1 n2
      have u0 : 0 ≤ ulp * x := Rat.mul_nonneg (Rat.le_of_lt up) (Rat.le_of_lt hp)
      show rabs ((n : Rat) * eta - x) ≤ _
      have p := pw_pos (-1074)
      have n1 : 2 * x ≤ (2 * (n : Rat) + 1) * eta := n1
      have n2 : (2 * (n : Rat) - 1) * eta ≤ 2 * x := n2
      unfold rabs
      grind
    · rw [if_neg c2] at e1; omega
theorem Rd.errA {x : Rat} {z : Bool} {r f : Int} (h : Rd x z r f) (hb : rabs x ≤ pw 1000) : fin r ∧ rabs (val r - x) ≤ ulp * rabs x + eta := by
  have ep := eta_pos
  by_cases hx : x = 0
  · obtain ⟨e, _⟩ := h.zero hx
    have m0 : mag r = 0 := by rw [e]; exact mag_signed (by decide) (by decide)
    have v : val r = 0 := val_zero_iff.mpr m0
    refine ⟨by unfold fin; rw [m0]; decide, ?_⟩
    rw [v, hx]
    have : (0 : Rat) - 0 = 0 := by grind
    rw [this, rabs_zero]
    grind
  · obtain ⟨m, h1, rfl⟩ := h.num hx
    obtain ⟨e1, e2⟩ := h1.errA hb
    clear hb
    have hr := h1.range
    have hI : INF < 9223372036854775808 := by decide
    rw [val_signed hr.1 (by omega)]
    refine ⟨by unfold fin; rw [mag_signed hr.1 (by omega)]; exact e1, ?_⟩
    by_cases c : x < 0
    · rw [if_pos (by simpa using c)]
      have a : rabs (-vm m - x) = rabs (vm m - rabs x) := by
        have : rabs x = -x := by unfold rabs; rw [if_pos c]
        rw [this, ← rabs_neg]
        congr 1
        grind
      rw [a]; exact e2
    · rw [if_neg (by simpa using c)]
      have : rabs x = x := by unfold rabs; rw [if_neg c]
      rw [this] at e2 ⊢
      exact e2
theorem sq_nonneg (t : Rat) : 0 ≤ t * t := by
  rcases Rat.le_total (a := 0) (b := t) with h | h
  · exact Rat.mul_nonneg h h
  · have := Rat.mul_nonneg (a := -t) (b := -t) (by grind) (by grind)
    grind
theorem rabs_of_nonneg {x : Rat} (h : 0 ≤ x) : rabs x = x := by unfold rabs; rw [if_neg (by grind)]
theorem sq_step {t u q : Rat} (ht : rabs t ≤ 2) (hu : rabs (u - t) ≤ ulp * rabs t + eta) (hq : rabs (q - u * u) ≤ ulp * rabs (u * u) + eta) :
    rabs (q - t * t) ≤ 31 / 10 * (ulp * (t * t)) + 10 * eta := by
  have u0 := ulp_pos
  have e0 := eta_pos
  have us : ulp ≤ 1 / 100000 := by decide +kernel
  have es : eta ≤ 1 / 100000 := by decide +kernel
  have tt : t * t = rabs t * rabs t := by rw [← rabs_mul]; exact (rabs_of_nonneg (sq_nonneg t)).symm
  have d1 : rabs (u * u - t * t) ≤ rabs (u - t) * (2 * rabs t + rabs (u - t)) := by
    have e : u * u - t * t = (u - t) * (2 * t + (u - t)) := by grind
    rw [e, rabs_mul]
    refine Rat.mul_le_mul_of_nonneg_left ?_ (rabs_nonneg _)
    have := rabs_add (2 * t) (u - t)
    have e2 : rabs (2 * t) = 2 * rabs t := by rw [rabs_mul]; rfl
    rw [e2] at this
    exact this
  have uu : rabs (u * u) ≤ rabs (u * u - t * t) + t * t := by
    have := rabs_add (u * u - t * t) (t * t)
    have e : u * u - t * t + t * t = u * u := by grind
    have e2 : rabs (t * t) = t * t := by rw [rabs_mul, tt]
    rw [e, e2] at this
    exact this
  have d2 : rabs (q - t * t) ≤ rabs (q - u * u) + rabs (u * u - t * t) := by
    have := rabs_add (q - u * u) (u * u - t * t)
    have e : q - u * u + (u * u - t * t) = q - t * t := by grind
    rw [e] at this
    exact this
  have x0 := rabs_nonneg t
  have y0 := rabs_nonneg (u - t)
  generalize rabs (q - t * t) = g1 at d2 ⊢
  generalize rabs (q - u * u) = g2 at d2 hq
  generalize rabs (u * u - t * t) = g3 at d1 d2 uu
  generalize rabs (u * u) = g4 at hq uu
  rw [tt] at uu ⊢
  clear tt
  generalize rabs (u - t) = D at *
  generalize rabs t = x at *
  have k1 : D * (2 * x + D) ≤ (ulp * x + eta) * (2 * x + (ulp * x + eta)) := by
    have a := Rat.mul_le_mul_of_nonneg_right hu (show 0 ≤ 2 * x + D by grind)
    have b := Rat.mul_le_mul_of_nonneg_left (show 2 * x + D ≤ 2 * x + (ulp * x + eta) by grind) (show 0 ≤ ulp * x + eta by grind)
    exact Rat.le_trans a b
  have xx : 0 ≤ x * x := Rat.mul_nonneg x0 x0
  have a0 : 0 ≤ ulp * (x * x) := Rat.mul_nonneg (Rat.le_of_lt u0) xx
  have a1 : ulp * (ulp * (x * x)) ≤ 1 / 100000 * (ulp * (x * x)) := Rat.mul_le_mul_of_nonneg_right us a0
  have a2 : eta * x ≤ eta * 2 := Rat.mul_le_mul_of_nonneg_left ht (Rat.le_of_lt e0)
  have a3 : ulp * (eta * x) ≤ 1 / 100000 * (eta * x) := Rat.mul_le_mul_of_nonneg_right us (Rat.mul_nonneg (Rat.le_of_lt e0) x0)
  have a4 : eta * eta ≤ 1 / 100000 * eta := Rat.mul_le_mul_of_nonneg_right es (Rat.le_of_lt e0)
  have b3 : g3 ≤ 21 / 10 * (ulp * (x * x)) + 5 * eta := by
    have e : (ulp * x + eta) * (2 * x + (ulp * x + eta)) = 2 * (ulp * (x * x)) + ulp * (ulp * (x * x)) + 2 * (eta * x) + 2 * (ulp * (eta * x)) + eta * eta := by grind
    rw [e] at k1
    grind
  have b4 : ulp * g4 ≤ ulp * (21 / 10 * (ulp * (x * x)) + 5 * eta + x * x) := Rat.mul_le_mul_of_nonneg_left (by grind) (Rat.le_of_lt u0)
  have b5 : ulp * (21 / 10 * (ulp * (x * x)) + 5 * eta + x * x) = 21 / 10 * (ulp * (ulp * (x * x))) + 5 * (ulp * eta) + ulp * (x * x) := by grind
  have a5 : ulp * eta ≤ 1 / 100000 * eta := Rat.mul_le_mul_of_nonneg_right us (Rat.le_of_lt e0)
  rw [b5] at b4
  have k2 : D * (2 * x + D) ≤ 21 / 10 * (ulp * (x * x)) + 5 * eta := by grind
  have b3' : g3 ≤ 205 / 100 * (ulp * (x * x)) + 5 * eta := by
    have e : (ulp * x + eta) * (2 * x + (ulp * x + eta)) = 2 * (ulp * (x * x)) + ulp * (ulp * (x * x)) + 2 * (eta * x) + 2 * (ulp * (eta * x)) + eta * eta := by grind
    rw [e] at k1
    grind
  grind
theorem sum_step {T p q s s' M : Rat} (M0 : 0 ≤ M) (M1 : M ≤ 40) (T0 : 0 ≤ T) (p0 : 0 ≤ p) (h1 : rabs (q - p) ≤ 31 / 10 * (ulp * p) + 10 * eta) (h2 : rabs (s - T) ≤ (31 / 10 + 101 / 100 * M) * (ulp * T) + 20 * M * eta)
    (h3 : rabs (s' - (s + q)) ≤ ulp * rabs (s + q) + eta) : rabs (s' - (T + p)) ≤ (31 / 10 + 101 / 100 * (M + 1)) * (ulp * (T + p)) + 20 * (M + 1) * eta := by
  have u0 := ulp_pos
  have e0 := eta_pos
  have us : ulp ≤ 1 / 100000 := by decide +kernel
  have A0 : 0 ≤ ulp * T := Rat.mul_nonneg (Rat.le_of_lt u0) T0
  have B0 : 0 ≤ ulp * p := Rat.mul_nonneg (Rat.le_of_lt u0) p0
  have sq : rabs (s + q) ≤ rabs (s - T) + rabs (q - p) + T + p := by
    have a := rabs_add (s - T) (q - p)
    have b := rabs_add ((s - T) + (q - p)) (T + p)
    have e : s - T + (q - p) + (T + p) = s + q := by grind
    have e2 : rabs (T + p) = T + p := by unfold rabs; rw [if_neg (by grind)]
    rw [e, e2] at b
    grind
  have d : rabs (s' - (T + p)) ≤ rabs (s' - (s + q)) + rabs (s - T) + rabs (q - p) := by
    have a := rabs_add (s' - (s + q)) ((s - T) + (q - p))
    have b := rabs_add (s - T) (q - p)
    have e : s' - (s + q) + (s - T + (q - p)) = s' - (T + p) := by grind
    rw [e] at a
    grind
  generalize rabs (s' - (T + p)) = g1 at *
  generalize rabs (s' - (s + q)) = g2 at *
  generalize rabs (s + q) = g3 at *
  generalize rabs (s - T) = g4 at *
  generalize rabs (q - p) = g5 at *
  have a := ulp * T
  have MA : M * (ulp * T) ≤ 40 * (ulp * T) := Rat.mul_le_mul_of_nonneg_right M1 A0
  have ME : M * eta ≤ 40 * eta := Rat.mul_le_mul_of_nonneg_right M1 (Rat.le_of_lt e0)
  have MB : 0 ≤ M * (ulp * p) := Rat.mul_nonneg M0 B0
  have g3b : g3 ≤ 50 * (ulp * T) + 4 * (ulp * p) + 900 * eta + T + p := by grind
  have k1 : ulp * g3 ≤ ulp * (50 * (ulp * T) + 4 * (ulp * p) + 900 * eta + T + p) := Rat.mul_le_mul_of_nonneg_left g3b (Rat.le_of_lt u0)
  have e1 : ulp * (50 * (ulp * T) + 4 * (ulp * p) + 900 * eta + T + p) = 50 * (ulp * (ulp * T)) + 4 * (ulp * (ulp * p)) + 900 * (ulp * eta) + ulp * T + ulp * p := by grind
  rw [e1] at k1
  have a1 : ulp * (ulp * T) ≤ 1 / 100000 * (ulp * T) := Rat.mul_le_mul_of_nonneg_right us A0
  have a2 : ulp * (ulp * p) ≤ 1 / 100000 * (ulp * p) := Rat.mul_le_mul_of_nonneg_right us B0
  have a3 : ulp * eta ≤ 1 / 100000 * eta := Rat.mul_le_mul_of_nonneg_right us (Rat.le_of_lt e0)
  have e2 : (31 / 10 + 101 / 100 * (M + 1)) * (ulp * (T + p)) + 20 * (M + 1) * eta = 31 / 10 * (ulp * T) + 101 / 100 * (M * (ulp * T)) + 101 / 100 * (ulp * T) + 31 / 10 * (ulp * p) + 101 / 100 * (M * (ulp * p)) + 101 / 100 * (ulp * p) + 20 * (M * eta) + 20 * eta := by grind
  have e3 : (31 / 10 + 101 / 100 * M) * (ulp * T) + 20 * M * eta = 31 / 10 * (ulp * T) + 101 / 100 * (M * (ulp * T)) + 20 * (M * eta) := by grind
  rw [e2]
  rw [e3] at h2
  grind
theorem sum_err {x : Nat → Int} {t : Nat → Rat} (hx : ∀ i, U (x i)) {n : Nat} (hn : n ≤ 40) (fx : ∀ i, i < n → fin (x i) ∧ rabs (t i) ≤ 2 ∧ rabs (val (x i) - t i) ≤ ulp * rabs (t i) + eta) :
    ∀ m, m ≤ n → fin (dS x x m) ∧ sm (fun i => t i * t i) m ≤ 4 * (m : Rat) ∧ rabs (val (dS x x m) - sm (fun i => t i * t i) m) ≤ (31 / 10 + 101 / 100 * (m : Rat)) * (ulp * sm (fun i => t i * t i) m) + 20 * (m : Rat) * eta := by
  intro m
  induction m with
  | zero =>
    intro _
    refine ⟨fin_zero, ?_, ?_⟩
    · simp only [sm]; grind
    · show rabs (val 0 - 0) ≤ _
      rw [val_zero]
      have : (0 : Rat) - 0 = 0 := by grind
      rw [this, rabs_zero]
      simp only [sm]
      have z0 : ((0 : Nat) : Rat) = 0 := rfl
      rw [z0]
      grind
  | succ m ih =>
    intro hm
    obtain ⟨fs, hT, hs⟩ := ih (by omega)
    obtain ⟨f1, t2, hu⟩ := fx m (by omega)
    have us : ulp ≤ 1 / 100000 := by decide +kernel
    have es : eta ≤ 1 / 100000 := by decide +kernel
    have u0 := ulp_pos
    have e0 := eta_pos
    have big : (1000 : Rat) ≤ pw 1000 := by decide +kernel
    have um : rabs (val (x m)) ≤ 3 := by
      have a := rabs_add (val (x m) - t m) (t m)
      have e : val (x m) - t m + t m = val (x m) := by grind
      rw [e] at a
      have b : ulp * rabs (t m) ≤ 1 / 100000 * rabs (t m) := Rat.mul_le_mul_of_nonneg_right us (rabs_nonneg _)
      grind
    have pm : rabs (val (x m) * val (x m)) ≤ 9 := by
      rw [rabs_mul]
      have a := Rat.mul_le_mul_of_nonneg_right um (rabs_nonneg (val (x m)))
      grind
    obtain ⟨fq, hq⟩ := (mv_Rd (hx m) (hx m) f1 f1).errA (Rat.le_trans pm (by grind))
    have hsq := sq_step t2 hu hq
    have mb : (m : Rat) ≤ 40 := by exact_mod_cast (show m ≤ 40 by omega)
    have m0 : (0 : Rat) ≤ (m : Rat) := by exact_mod_cast Nat.zero_le m
    have T0 : 0 ≤ sm (fun i => t i * t i) m := sm_nonneg (fun i => sq_nonneg (t i)) m
    have p0 := sq_nonneg (t m)
    have p4 : t m * t m ≤ 4 := by
      have : t m * t m = rabs (t m) * rabs (t m) := by rw [← rabs_mul]; unfold rabs; rw [if_neg (by grind)]
      rw [this]
      have a := Rat.mul_le_mul_of_nonneg_right t2 (rabs_nonneg (t m))
      grind
    have usd := dS_U hx hx m
    have cast : ((m + 1 : Nat) : Rat) = (m : Rat) + 1 := by push_cast; rfl
    have sb : rabs (val (dS x x m) + val (mv (x m) (x m))) ≤ 1000 := by
      have a := rabs_add (val (dS x x m) - sm (fun i => t i * t i) m) (val (mv (x m) (x m)) - t m * t m)
      have b := rabs_add (val (dS x x m) - sm (fun i => t i * t i) m + (val (mv (x m) (x m)) - t m * t m)) (sm (fun i => t i * t i) m + t m * t m)
      have e : val (dS x x m) - sm (fun i => t i * t i) m + (val (mv (x m) (x m)) - t m * t m) + (sm (fun i => t i * t i) m + t m * t m) = val (dS x x m) + val (mv (x m) (x m)) := by grind
      have e2 : rabs (sm (fun i => t i * t i) m + t m * t m) = sm (fun i => t i * t i) m + t m * t m := by unfold rabs; rw [if_neg (by grind)]
      rw [e, e2] at b
      generalize sm (fun i => t i * t i) m = T at *
      have A0 : 0 ≤ ulp * T := Rat.mul_nonneg (Rat.le_of_lt u0) T0
      have MA : (m : Rat) * (ulp * T) ≤ 40 * (ulp * T) := Rat.mul_le_mul_of_nonneg_right mb A0
      have ME : (m : Rat) * eta ≤ 40 * eta := Rat.mul_le_mul_of_nonneg_right mb (Rat.le_of_lt e0)
      have uT : ulp * T ≤ 1 / 100000 * T := Rat.mul_le_mul_of_nonneg_right us T0
      have up : ulp * (t m * t m) ≤ 1 / 100000 * (t m * t m) := Rat.mul_le_mul_of_nonneg_right us p0
      have e3 : (31 / 10 + 101 / 100 * (m : Rat)) * (ulp * T) + 20 * (m : Rat) * eta = 31 / 10 * (ulp * T) + 101 / 100 * ((m : Rat) * (ulp * T)) + 20 * ((m : Rat) * eta) := by grind
      rw [e3] at hs
      grind
    obtain ⟨fs', hs'⟩ := (av_Rd usd (mv_U (hx m) (hx m)) fs fq).errA (Rat.le_trans sb big)
    refine ⟨fs', ?_, ?_⟩
    · simp only [sm]; rw [cast]; grind
    · rw [cast]
      exact sum_step m0 mb T0 p0 hsq hs hs'

theorem nrm_dS {u : List Int} (hu : ∀ x ∈ u, U x) (hn : u.length ≤ 1000000) : ∀ t i : Nat, u.length - i = t → i ≤ u.length → ∀ F : Int, ∃ G,
    (∀ (e c : Int) (r : Int × Int), Ev (fun K => vec_Nrm2.l0 K e (dS (fun j => rd u (j : Int)) (fun j => rd u (j : Int)) u.length) u (u.length : Int) (u.length : Int) c G) r → Ev (fun K => vec_Nrm2.l0 K e (dS (fun j => rd u (j : Int)) (fun j => rd u (j : Int)) i) u (u.length : Int) i c F) r) := by
  intro t
  induction t with
  | zero =>
    intro i h1 h2 F
    obtain rfl : i = u.length := by omega
    exact ⟨F, fun e c r h => h⟩
  | succ t ih =>
    intro i h1 h2 F
    have hi : i < u.length := by omega
    have su := rd_U hu i
    obtain ⟨F1, ev1, _, _⟩ := cMul (F := F) su su
    obtain ⟨F2, ev2, _, _⟩ := cAdd (F := F1) (dS_U (x := fun j => rd u (j : Int)) (y := fun j => rd u (j : Int)) (rd_U hu) (rd_U hu) i) (mv_U su su)
    obtain ⟨G, k1⟩ := ih (i + 1) (by omega) (by omega) F2
    refine ⟨G, fun e c r h => ?_⟩
    refine Ev.succ ?_
    simp only [vec_Nrm2.l0]
    rw [w64 (x := (i : Int) + 1) (by omega) (by omega)]
    exact Ev.pos (by omega) (Ev.pos (by omega) (Ev.pos (by omega) (Ev.bind ev1 (Ev.bind ev2 (k1 e c r h)))))
theorem greatest_lo {l : List Int} (hl : ∀ x ∈ l, U x) (hn : l.length ≤ 1000000) : ∀ t i : Nat, l.length - i = t → i ≤ l.length → ∀ m j : Int, 0 ≤ m → m < 9223372036854775808 → (j < 0 → m = 0) →
    ∃ m' j', Ev (fun K => order_Greatest.l0 K m j l l.length i) (m', j') ∧ (m' = 9221120237041090560 ∨ (m ≤ m' ∧ m' < 9223372036854775808 ∧ ∀ k (h : k < l.length), i ≤ k → mag l[k] ≤ m')) := by
  intro t
  induction t with
  | zero =>
    intro i h1 h2 m j m0 m1 hj
    refine ⟨m, j, Ev.succ ?_, .inr ⟨Int.le_refl _, m1, fun k h hk => by omega⟩⟩
    simp only [order_Greatest.l0]
    exact Ev.neg (by omega) (Ev.now _)
  | succ t ih =>
    intro i h1 h2 m j m0 m1 hj
    have hi : i < l.length := by omega
    have hu := hl _ (List.getElem_mem hi)
    have hm := mag_lt (a := l[i])
    have hk := word_Kind_ev hu
    have ha := word_Abs_eq hu
    have e0 : l[i] % 9223372036854775808 = mag l[i] := rfl
    rw [e0] at hk ha
    by_cases k5 : kindOf (mag l[i]) = 5
    · refine ⟨9221120237041090560, (i : Int), Ev.succ ?_, .inl rfl⟩
      simp only [order_Greatest.l0]
      rw [rd_at hi]
      exact Ev.pos (by omega) (Ev.pos (by omega) (Ev.pos (by omega) (Ev.bind hk (Ev.pos k5 (Ev.now _)))))
    have go : ∀ m2 j2 : Int, 0 ≤ m2 → m2 < 9223372036854775808 → (j2 < 0 → m2 = 0) → m ≤ m2 → mag l[i] ≤ m2 →
        (∀ r, Ev (fun K => order_Greatest.l0 K m2 j2 l l.length ((i : Int) + 1)) r → Ev (fun K => order_Greatest.l0 K m j l l.length i) r) →
        ∃ m' j', Ev (fun K => order_Greatest.l0 K m j l l.length i) (m', j') ∧ (m' = 9221120237041090560 ∨ (m ≤ m' ∧ m' < 9223372036854775808 ∧ ∀ k (h : k < l.length), i ≤ k → mag l[k] ≤ m')) := by
      intro m2 j2 a1 a2 a3 a4 a5 step
      obtain ⟨m', j', ev, b⟩ := ih (i + 1) (by omega) (by omega) m2 j2 a1 a2 a3
      refine ⟨m', j', step _ ev, ?_⟩
      rcases b with b | ⟨b1, b2, b3⟩
      · exact .inl b
      refine .inr ⟨by omega, b2, fun k h hk => ?_⟩
      by_cases c : k = i
      · subst c; omega
      · exact b3 k h (by omega)
    by_cases c1 : j < 0
    · have := hj c1
      refine go (mag l[i]) i hm.1 hm.2 (by omega) (by omega) (Int.le_refl _) fun r ev => ?_
      refine Ev.succ ?_
      simp only [order_Greatest.l0]
      rw [rd_at hi, w64 (x := (i : Int) + 1) (by omega) (by omega)]
      exact Ev.pos (by omega) (Ev.pos (by omega) (Ev.pos (by omega) (Ev.bind hk (Ev.neg k5 (Ev.pos c1 (Ev.call ha ev))))))
    · by_cases c2 : mag l[i] > m
      · refine go (mag l[i]) i hm.1 hm.2 (by omega) (by omega) (Int.le_refl _) fun r ev => ?_
        refine Ev.succ ?_
        simp only [order_Greatest.l0]
        rw [rd_at hi, w64 (x := (i : Int) + 1) (by omega) (by omega)]
        exact Ev.pos (by omega) (Ev.pos (by omega) (Ev.pos (by omega) (Ev.bind hk (Ev.neg k5 (Ev.neg c1 (Ev.call ha (Ev.pos c2 (Ev.call ha ev))))))))
      · refine go m j m0 m1 hj (Int.le_refl _) (by omega) fun r ev => ?_
        refine Ev.succ ?_
        simp only [order_Greatest.l0]
        rw [rd_at hi, w64 (x := (i : Int) + 1) (by omega) (by omega)]
        exact Ev.pos (by omega) (Ev.pos (by omega) (Ev.pos (by omega) (Ev.bind hk (Ev.neg k5 (Ev.neg c1 (Ev.call ha (Ev.neg c2 ev)))))))
theorem nrm_none {l : List Int} (hl : ∀ x ∈ l, U x) (hn : l.length ≤ 1000000) (h : ∃ x ∈ l, ¬ fin x) (c : Int) : ∃ m j, Ev (fun K => order_Greatest.f K l) (m, j) ∧ Ev (fun K => vec_Nrm2.f K c l) (m, c) := by
  obtain ⟨m, j, ev, b⟩ := greatest_lo hl hn l.length 0 (by omega) (by omega) 0 (-1) (by decide) (by decide) (fun _ => rfl)
  have ev : Ev (fun K => order_Greatest.f K l) (m, j) := ev
  refine ⟨m, j, ev, ?_⟩
  have hb : 9218868437227405312 ≤ m ∧ m < 9223372036854775808 := by
    rcases b with rfl | ⟨b1, b2, b3⟩
    · decide
    · refine ⟨?_, b2⟩
      obtain ⟨x, hx, nf⟩ := h
      obtain ⟨k, hk, rfl⟩ := List.getElem_of_mem hx
      have := b3 k hk (by omega)
      unfold fin INF at nf
      omega
  have um : U m := ⟨by omega, by omega⟩
  have ep : Ev (fun K => vec_Power.f K l) (0, false) := by
    unfold vec_Power.f
    exact Ev.bind ev (Ev.bind (word_Parts_none um (.inr (by omega))) (Ev.pos rfl (Ev.now _)))
  unfold vec_Nrm2.f
  exact Ev.bind ep (Ev.neg (by simp) (Ev.bind ev (Ev.now _)))
theorem flags6 {f g : Int} (h : Go.bits .and .u8 (Go.bits .or .u8 0 (Go.bits .or .u8 f (Go.bits .and .u8 1 g))) 6 = 0) : f ≠ 3 ∧ f ≠ 5 := by
  rcases one_and8 g with e | e <;> rw [e] at h <;> exact ⟨fun e => by subst e; revert h; decide, fun e => by subst e; revert h; decide⟩
/-- What the sum may be from the exact one, in all. -/
def kap (n : Rat) : Rat := (31 / 10 + 101 / 100 * n) * ulp + 20 * n * eta
theorem kap_ok : ∀ n : Fin 41, 0 ≤ kap n ∧ kap n ≤ 1 / 2 ∧ (1 + kap n) * ((1 + ulq) * (1 + ulq)) * ((1 + ulp) * (1 + ulp)) ≤ (1 + ((n : Nat) + 4 : Int) * pw (-53)) * (1 + ((n : Nat) + 4 : Int) * pw (-53)) ∧
    (1 - ((n : Nat) + 4 : Int) * pw (-53)) * (1 - ((n : Nat) + 4 : Int) * pw (-53)) ≤ (1 - kap n) * ((1 - ulq) * (1 - ulq)) * ((1 - ulp) * (1 - ulp)) := by decide +kernel
theorem sm_mul (g : Nat → Rat) (c : Rat) : ∀ n, sm (fun i => g i * c) n = sm g n * c
  | 0 => by simp only [sm]; grind
  | n + 1 => by simp only [sm]; rw [sm_mul g c n]; grind
theorem sm_ge {g : Nat → Rat} (h : ∀ k, 0 ≤ g k) : ∀ n k, k < n → g k ≤ sm g n
  | 0, k, hk => by omega
  | n + 1, k, hk => by
    simp only [sm]
    have a := sm_nonneg h n
    by_cases c : k = n
    · subst c; grind
    · have := sm_ge h n k (by omega)
      have := h n
      grind
theorem sm_congr {g h : Nat → Rat} : ∀ n, (∀ i, i < n → g i = h i) → sm g n = sm h n
  | 0, _ => rfl
  | n + 1, e => by simp only [sm]; rw [sm_congr n (fun i hi => e i (by omega)), e n (by omega)]
theorem near_mul {T v q W k a b : Rat} (T0 : 0 ≤ T) (h1 : v ≤ T * (1 + k)) (h2 : q ≤ v * a) (h3 : W ≤ q * b) (a0 : 0 ≤ a) (b0 : 0 ≤ b) : W ≤ T * ((1 + k) * a * b) := by
  have e1 := Rat.mul_le_mul_of_nonneg_right (Rat.le_trans h2 (Rat.mul_le_mul_of_nonneg_right h1 a0)) b0
  have e2 := Rat.le_trans h3 e1
  grind
theorem near_mul' {T v q W k a b : Rat} (T0 : 0 ≤ T) (h1 : T * (1 - k) ≤ v) (h2 : v * a ≤ q) (h3 : q * b ≤ W) (a0 : 0 ≤ a) (b0 : 0 ≤ b) : T * ((1 - k) * a * b) ≤ W := by
  have e1 := Rat.mul_le_mul_of_nonneg_right (Rat.le_trans (Rat.mul_le_mul_of_nonneg_right h1 a0) h2) b0
  have e2 := Rat.le_trans e1 h3
  grind
theorem sq_mono {x y : Rat} (h0 : 0 ≤ x) (h : x ≤ y) : x * x ≤ y * y :=
  Rat.le_trans (Rat.mul_le_mul_of_nonneg_left h h0) (Rat.mul_le_mul_of_nonneg_right h (Rat.le_trans h0 h))
theorem nrm_near {l : List Int} (hl : ∀ x ∈ l, U x ∧ fin x) (hn : l.length ≤ 40) : ∃ r F, Ev (fun K => vec_Nrm2.f K 0 l) (r, F) ∧ U r ∧ (Go.bits .and .u8 F 6 = 0 → fin r ∧
    sm (fun i => val (rd l (i : Int)) * val (rd l (i : Int))) l.length * ((1 - ((l.length : Int) + 4 : Int) * pw (-53)) * (1 - ((l.length : Int) + 4 : Int) * pw (-53))) ≤ val r * val r ∧
    val r * val r ≤ sm (fun i => val (rd l (i : Int)) * val (rd l (i : Int))) l.length * ((1 + ((l.length : Int) + 4 : Int) * pw (-53)) * (1 + ((l.length : Int) + 4 : Int) * pw (-53)))) := by
  have hU : ∀ x ∈ l, U x := fun x hx => (hl x hx).1
  have hn6 : l.length ≤ 1000000 := by omega
  obtain ⟨m, j, eg, m0, m1, hmax, hat, hz, hp⟩ := power_fin hl hn6
  by_cases c0 : m = 0
  · have ep := hz c0
    subst c0
    refine ⟨0, 0, ?_, U_zero_, fun _ => ⟨fin_zero, ?_⟩⟩
    · unfold vec_Nrm2.f
      exact Ev.bind ep (Ev.neg (by simp) (Ev.bind eg (Ev.now _)))
    · have : sm (fun i => val (rd l (i : Int)) * val (rd l (i : Int))) l.length = 0 := by
        have e : sm (fun i => val (rd l (i : Int)) * val (rd l (i : Int))) l.length = sm (fun _ => (0 : Rat) * 0) l.length := sm_congr _ fun i hi => by
          have e1 : val (rd l (i : Int)) = 0 := by
            rw [rd_at hi]
            refine val_zero_iff.mpr ?_
            have := hmax _ (List.getElem_mem hi)
            have := mag_lt (a := l[i])
            omega
          rw [e1]
        rw [e, sm_mul]; grind
      rw [this, val_zero]
      constructor <;> grind
  obtain ⟨e, ep, e0, e1, pe, pe1⟩ := hp (by omega)
  obtain ⟨u, hu⟩ : ∃ u, u = l.map (fun x => (sc (-e) x).1) := ⟨_, rfl⟩
  have lu : u.length = l.length := by rw [hu, List.length_map]
  have uU : ∀ x ∈ u, U x := by
    intro x hx
    rw [hu] at hx
    obtain ⟨y, hy, rfl⟩ := List.mem_map.mp hx
    exact sc_U (hU y hy)
  have hun := unit_ev hU hn6 (show -20000 ≤ e by omega) (by omega)
  rw [← hu] at hun
  -- what each number is, scaled
  have hp0 := pw_pos (-e)
  have pme : pw e * pw (-e) = 1 := by rw [Rat.mul_comm]; exact pw_neg_mul e
  have tm : ∀ i, i < l.length → rabs (val (rd l (i : Int)) * pw (-e)) ≤ 2 := fun i hi => by
    have a : vm (mag (rd l (i : Int))) ≤ vm m := by
      rw [rd_at hi]; exact vm_mono mag_lt.1 (hmax _ (List.getElem_mem hi))
    have b : rabs (pw (-e)) = pw (-e) := rabs_of_nonneg (Rat.le_of_lt hp0)
    rw [rabs_mul, rabs_val, b]
    have d := Rat.mul_le_mul_of_nonneg_right (Rat.le_trans a (Rat.le_of_lt pe1)) (Rat.le_of_lt hp0)
    have e2 : pw (e + 1) * pw (-e) = 2 := by rw [pw_succ, Rat.mul_assoc, pme, Rat.mul_one]
    rw [e2] at d
    exact d
  have big : (2 : Rat) ≤ pw 1000 := by decide +kernel
  have us : ∀ i, i < l.length → fin (rd u (i : Int)) ∧ rabs (val (rd l (i : Int)) * pw (-e)) ≤ 2 ∧ rabs (val (rd u (i : Int)) - val (rd l (i : Int)) * pw (-e)) ≤ ulp * rabs (val (rd l (i : Int)) * pw (-e)) + eta := fun i hi => by
    have t2 := tm i hi
    obtain ⟨ux, fx⟩ := hl _ (List.getElem_mem hi)
    have er : rd u (i : Int) = (sc (-e) l[i]).1 := by
      rw [rd_at (by omega)]; simp only [hu, List.getElem_map]
    rw [rd_at hi] at t2 ⊢
    rw [er]
    have R := sc_R' (n := -e) ux (by omega) (by omega)
    have nn : isNan l[i] = false := by
      have := fx
      unfold fin INF mag at this
      unfold isNan; simp only [decide_eq_false_iff_not]
      unfold mag INF
      omega
    unfold ScaleR at R
    rw [if_neg (by rw [nn]; simp)] at R
    by_cases cz : mag l[i] = 0
    · rw [if_pos (.inr cz)] at R
      rw [R.1]
      have v0 : val l[i] = 0 := val_zero_iff.mpr cz
      refine ⟨fx, t2, ?_⟩
      rw [v0]
      have z1 : (0 : Rat) * pw (-e) = 0 := by grind
      have z2 : (0 : Rat) - 0 = 0 := by grind
      rw [z1, z2, rabs_zero]
      have := eta_pos
      grind
    · rw [if_neg (by unfold fin at fx; omega)] at R
      obtain ⟨g1, g2⟩ := R.errA (Rat.le_trans t2 big)
      exact ⟨g1, t2, g2⟩
  have hS := sum_err (x := fun i => rd u (i : Int)) (t := fun i => val (rd l (i : Int)) * pw (-e)) (rd_U uU) hn us l.length (Nat.le_refl _)
  obtain ⟨fS, hT4, hS⟩ := hS
  obtain ⟨T, hT⟩ : ∃ T, T = sm (fun i => val (rd l (i : Int)) * pw (-e) * (val (rd l (i : Int)) * pw (-e))) l.length := ⟨_, rfl⟩
  simp only [← hT] at hT4 hS
  have T1 : 1 ≤ T := by
    rcases hat with h | ⟨x, hx, hxm⟩
    · exact absurd h c0
    · obtain ⟨k, hk, rfl⟩ := List.getElem_of_mem hx
      have a := sm_ge (g := fun i => val (rd l (i : Int)) * pw (-e) * (val (rd l (i : Int)) * pw (-e))) (fun i => sq_nonneg _) l.length k hk
      rw [← hT] at a
      have b : 1 ≤ rabs (val (rd l (k : Int)) * pw (-e)) := by
        rw [rabs_mul, rabs_val, rabs_of_nonneg (Rat.le_of_lt hp0), rd_at hk, hxm]
        have := Rat.mul_le_mul_of_nonneg_right pe (Rat.le_of_lt hp0)
        rw [pme] at this
        exact this
      have d := sq_mono (show (0 : Rat) ≤ 1 by decide) b
      rw [← rabs_mul, rabs_of_nonneg (sq_nonneg _)] at d
      grind
  have hTx : sm (fun i => val (rd l (i : Int)) * val (rd l (i : Int))) l.length = T * (pw e * pw e) := by
    have e1 : T = sm (fun i => val (rd l (i : Int)) * val (rd l (i : Int)) * (pw (-e) * pw (-e))) l.length := by
      rw [hT]; exact sm_congr _ fun i _ => by grind
    rw [e1, sm_mul]
    have : pw (-e) * pw (-e) * (pw e * pw e) = 1 := by
      have e2 : pw (-e) * pw (-e) * (pw e * pw e) = (pw e * pw (-e)) * (pw e * pw (-e)) := by grind
      rw [e2, pme, Rat.mul_one]
    rw [Rat.mul_assoc, this, Rat.mul_one]
  obtain ⟨k0, k1, kup, klo⟩ := kap_ok ⟨l.length, by omega⟩
  simp only at k0 k1 kup klo
  obtain ⟨κ, hκ⟩ : ∃ κ, κ = kap (l.length : Rat) := ⟨_, rfl⟩
  have hSk : rabs (val (dS (fun i => rd u (i : Int)) (fun i => rd u (i : Int)) l.length) - T) ≤ κ * T := by
    refine Rat.le_trans hS ?_
    rw [hκ]
    unfold kap
    have n0 : (0 : Rat) ≤ (l.length : Rat) := by exact_mod_cast Nat.zero_le _
    have w0 : 0 ≤ 20 * (l.length : Rat) * eta := Rat.mul_nonneg (by grind) (Rat.le_of_lt eta_pos)
    have := Rat.mul_le_mul_of_nonneg_left T1 w0
    grind
  have us_ : U (dS (fun i => rd u (i : Int)) (fun i => rd u (i : Int)) l.length) := dS_U (rd_U uU) (rd_U uU) _
  obtain ⟨G, kk⟩ := nrm_dS uU (by omega) u.length 0 (by omega) (by omega) 0
  rw [lu] at kk
  obtain ⟨s, hs⟩ : ∃ s, s = dS (fun i => rd u (i : Int)) (fun i => rd u (i : Int)) l.length := ⟨_, rfl⟩
  rw [← hs] at fS hSk us_ kk
  have κ0 : 0 ≤ κ := by rw [hκ]; exact k0
  have κ1 : κ ≤ 1 / 2 := by rw [hκ]; exact k1
  have T0 : 0 ≤ T := by grind
  have kT : κ * T ≤ 1 / 2 * T := Rat.mul_le_mul_of_nonneg_right κ1 T0
  have vlo : T * (1 - κ) ≤ val s := by unfold rabs at hSk; split at hSk <;> grind
  have vhi : val s ≤ T * (1 + κ) := by unfold rabs at hSk; split at hSk <;> grind
  have v2 : (1 : Rat) / 2 ≤ val s := by grind
  have v3 : val s ≤ 320 := by
    have : (l.length : Rat) ≤ 40 := by exact_mod_cast hn
    grind
  have ns : neg s = false := by
    cases h : neg s
    · rfl
    · exfalso
      have hv : val s = -vm (mag s) := by unfold val; rw [h]; rfl
      have := vm_nonneg (mag_lt (a := s)).1
      grind
  have hv : val s = vm (mag s) := by unfold val; rw [ns]; rfl
  have ms : mag s ≠ 0 := fun h => by have := val_zero_iff.mpr h; grind
  obtain ⟨root, f, es, Rs⟩ := more_Sqrt_ev us_
  have ur := sqrt_U us_ Rs
  have ss : SqX (vm (mag s)) root f := by
    have nn : isNan s = false := by
      have := fS
      unfold fin INF mag at this
      unfold isNan; simp only [decide_eq_false_iff_not]
      unfold mag INF
      omega
    unfold SqrtR at Rs
    rw [if_neg (by rw [nn]; simp), if_neg (by
      intro h
      rcases h with h | h
      · exact ms h
      · rw [h] at fS; revert fS; decide), if_neg (by rw [ns]; simp)] at Rs
    exact Rs
  rw [← hv] at ss
  have big1 : (320 : Rat) ≤ pw 1100 := by decide +kernel
  have small1 : pw (-1100) ≤ (1 : Rat) / 2 := by decide +kernel
  obtain ⟨rI, r0, rlo, rhi⟩ := ss.near (Rat.le_trans small1 v2) (Rat.le_trans v3 big1)
  have rr0 := (ss.flags).2.2.1
  have hI : INF < 9223372036854775808 := by decide
  have mr : mag root = root := by unfold mag; omega
  have nr : neg root = false := by unfold neg; simp only [decide_eq_false_iff_not]; omega
  have vr : val root = vm root := by unfold val; rw [nr, mr]; rfl
  have uq : ulq ≤ 1 / 4 := by decide +kernel
  have ul : ulp ≤ 1 / 4 := by decide +kernel
  have uq0 := ulq_pos
  have ul0 := ulp_pos
  have rp : 0 < vm root := by
    have d0 : 0 < (1 - ulq) * (1 - ulq) := Rat.mul_pos (by grind) (by grind)
    have := Rat.mul_pos (a := val s) (by grind) d0
    have ne : vm root ≠ 0 := fun h => by rw [h] at rlo; grind
    grind
  have R := sc_R' (n := e) ur (by omega) (by omega)
  have ec := sc_ev (n := e) ur
  unfold ScaleR at R
  rw [if_neg (by
    intro h
    unfold isNan at h; simp only [decide_eq_true_eq] at h
    rw [mr] at h; unfold INF at rI; unfold INF at h; omega), if_neg (by
    rw [mr]
    intro h
    rcases h with h | h
    · omega
    · rw [h, vm_zero] at rp; exact absurd rp (by decide)), vr] at R
  refine ⟨(sc e root).1, Go.bits .or .u8 0 (Go.bits .or .u8 (sc e root).2 (Go.bits .and .u8 1 G)), ?_, sc_U ur, fun hF => ?_⟩
  · unfold vec_Nrm2.f
    refine Ev.bind ep (Ev.pos rfl (Ev.bind hun ?_))
    rw [lu]
    refine kk e 0 _ (Ev.succ ?_)
    simp only [vec_Nrm2.l0]
    exact Ev.neg (by omega) (Ev.bind es (Ev.bind ec (Ev.call (show soft_Calc_Note.f 0 _ _ = some (_, Go.bits .or .u8 0 _) from rfl) (Ev.now _))))
  · obtain ⟨f3, f5⟩ := flags6 hF
    obtain ⟨g1, g2, _⟩ := R.err f3 f5
    refine ⟨g1, ?_⟩
    have pe0 := pw_pos e
    have P0 : 0 < pw e * pw e := Rat.mul_pos pe0 pe0
    have X0 : 0 < vm root * pw e := Rat.mul_pos rp pe0
    rw [rabs_of_nonneg (Rat.le_of_lt X0)] at g2
    generalize val (sc e root).1 = w at g2 ⊢
    have b1 : vm root * pw e * (1 - ulp) ≤ w := by unfold rabs at g2; split at g2 <;> grind
    have b2 : w ≤ vm root * pw e * (1 + ulp) := by unfold rabs at g2; split at g2 <;> grind
    have Xl : 0 ≤ vm root * pw e * (1 - ulp) := Rat.mul_nonneg (Rat.le_of_lt X0) (by grind)
    have c1 := sq_mono Xl b1
    have c2 := sq_mono (Rat.le_trans Xl b1) b2
    have TP : 0 ≤ T * (pw e * pw e) := Rat.mul_nonneg T0 (Rat.le_of_lt P0)
    have l1 := Rat.mul_le_mul_of_nonneg_right vlo (Rat.le_of_lt P0)
    have l2 := Rat.mul_le_mul_of_nonneg_right vhi (Rat.le_of_lt P0)
    have l3 := Rat.mul_le_mul_of_nonneg_right rlo (Rat.le_of_lt P0)
    have l4 := Rat.mul_le_mul_of_nonneg_right rhi (Rat.le_of_lt P0)
    rw [hTx]
    rw [← hκ] at kup klo
    have m1 := Rat.mul_le_mul_of_nonneg_left kup TP
    have m2 := Rat.mul_le_mul_of_nonneg_left klo TP
    refine ⟨Rat.le_trans m2 ?_, Rat.le_trans ?_ m1⟩
    · refine near_mul' (v := val s * (pw e * pw e)) (q := vm root * vm root * (pw e * pw e)) TP (by grind) (by grind) (by grind) (sq_nonneg _) (sq_nonneg _)
    · refine near_mul (v := val s * (pw e * pw e)) (q := vm root * vm root * (pw e * pw e)) TP (by grind) (by grind) (by grind) (sq_nonneg _) (sq_nonneg _)
end Gim
namespace Gim
set_option linter.unusedVariables false

/-- The whole number of a list of digits. -/
def nv : List Int → Int
  | [] => 0
  | d :: l => d + 4294967296 * nv l
def Dig (l : List Int) : Prop := ∀ x ∈ l, 0 ≤ x ∧ x < 4294967296
/-- 2^(32 n). -/
def bp (n : Nat) : Int := 4294967296 ^ n
theorem bp_zero : bp 0 = 1 := rfl
theorem bp_succ (n : Nat) : bp (n + 1) = 4294967296 * bp n := by unfold bp; rw [Int.pow_succ, Int.mul_comm]
theorem bp_pos (n : Nat) : 0 < bp n := by unfold bp; exact Int.pow_pos (by decide)
theorem bp_add (m n : Nat) : bp (m + n) = bp m * bp n := by unfold bp; exact Int.pow_add _ _ _
theorem bp_mono {m n : Nat} (h : m ≤ n) : bp m ≤ bp n := by
  obtain ⟨k, rfl⟩ : ∃ k, n = m + k := ⟨n - m, by omega⟩
  rw [bp_add]
  have h1 := bp_pos m
  have h2 := bp_pos k
  have := Int.mul_le_mul_of_nonneg_left (show 1 ≤ bp k by omega) (Int.le_of_lt h1)
  omega
theorem bp_pw (n : Nat) : ((bp n : Int) : Rat) = pw (32 * n) := by
  have : bp n = 2 ^ (32 * n) := by unfold bp; rw [Int.pow_mul]; rfl
  have e : ((32 * (n : Int)) : Int) = ((32 * n : Nat) : Int) := by omega
  rw [this, e, pw_nat]
theorem nv_cons (d : Int) (l : List Int) : nv (d :: l) = d + 4294967296 * nv l := rfl
theorem nv_append (l l' : List Int) : nv (l ++ l') = nv l + bp l.length * nv l' := by
  induction l with
  | nil => simp [nv, bp_zero]
  | cons d l ih =>
    rw [List.cons_append, nv_cons, nv_cons, ih, List.length_cons, bp_succ]
    grind
theorem nv_snoc (l : List Int) (d : Int) : nv (l ++ [d]) = nv l + bp l.length * d := by rw [nv_append]; simp [nv]
theorem nv_zeros (n : Nat) : nv (List.replicate n 0) = 0 := by
  induction n with
  | zero => rfl
  | succ n ih => rw [List.replicate_succ, nv_cons, ih]; rfl
theorem Dig.nil : Dig [] := by intro x hx; cases hx
theorem Dig.cons {d : Int} {l : List Int} (h : Dig (d :: l)) : (0 ≤ d ∧ d < 4294967296) ∧ Dig l := ⟨h d List.mem_cons_self, fun x hx => h x (List.mem_cons_of_mem _ hx)⟩
theorem Dig.mk {d : Int} {l : List Int} (h0 : 0 ≤ d) (h1 : d < 4294967296) (h : Dig l) : Dig (d :: l) := by
  intro x hx
  rcases List.mem_cons.mp hx with rfl | hx
  · exact ⟨h0, h1⟩
  · exact h x hx
theorem Dig.append {l l' : List Int} (h : Dig l) (h' : Dig l') : Dig (l ++ l') := by
  intro x hx
  rcases List.mem_append.mp hx with hx | hx
  · exact h x hx
  · exact h' x hx
theorem Dig.one {d : Int} (h0 : 0 ≤ d) (h1 : d < 4294967296) : Dig [d] := Dig.mk h0 h1 Dig.nil
theorem Dig.take {l : List Int} (h : Dig l) (n : Nat) : Dig (l.take n) := fun x hx => h x (List.mem_of_mem_take hx)
theorem Dig.drop {l : List Int} (h : Dig l) (n : Nat) : Dig (l.drop n) := fun x hx => h x (List.mem_of_mem_drop hx)
theorem Dig.zeros (n : Nat) : Dig (List.replicate n 0) := by
  intro x hx
  rw [(List.mem_replicate.mp hx).2]
  decide
theorem Dig.set {l : List Int} (h : Dig l) (i : Nat) {v : Int} (h0 : 0 ≤ v) (h1 : v < 4294967296) : Dig (l.set i v) := by
  intro x hx
  rcases List.mem_or_eq_of_mem_set hx with hx | hx
  · exact h x hx
  · rw [hx]; exact ⟨h0, h1⟩
theorem Dig.get {l : List Int} (h : Dig l) {i : Nat} (hi : i < l.length) : 0 ≤ l[i] ∧ l[i] < 4294967296 := h _ (List.getElem_mem hi)
theorem nv_bounds {l : List Int} (h : Dig l) : 0 ≤ nv l ∧ nv l < bp l.length := by
  induction l with
  | nil => exact ⟨Int.le_refl _, by rw [List.length_nil, bp_zero]; decide⟩
  | cons d l ih =>
    obtain ⟨⟨h0, h1⟩, h2⟩ := h.cons
    obtain ⟨a, b⟩ := ih h2
    rw [nv_cons, List.length_cons, bp_succ]
    omega
theorem nv_take_drop (l : List Int) (n : Nat) (h : n ≤ l.length) : nv l = nv (l.take n) + bp n * nv (l.drop n) := by
  have := nv_append (l.take n) (l.drop n)
  rwa [List.take_append_drop, List.length_take, Nat.min_eq_left h] at this
theorem nv_set {l : List Int} {i : Nat} (h : i < l.length) (v : Int) : nv (l.set i v) = nv l + bp i * (v - l[i]) := by
  induction l generalizing i with
  | nil => simp at h
  | cons d l ih =>
    cases i with
    | zero => simp [nv, bp_zero]; omega
    | succ i =>
      have hi : i < l.length := by simpa using h
      rw [List.set_cons_succ, nv_cons, nv_cons, ih hi, bp_succ]
      simp only [List.getElem_cons_succ]
      grind
theorem nv_take_succ {l : List Int} {i : Nat} (h : i < l.length) : nv (l.take (i + 1)) = nv (l.take i) + bp i * l[i] := by
  rw [List.take_succ_eq_append_getElem h, nv_snoc, List.length_take, Nat.min_eq_left (by omega)]
theorem nv_drop {l : List Int} {i : Nat} (h : i < l.length) : nv (l.drop i) = l[i] + 4294967296 * nv (l.drop (i + 1)) := by
  rw [List.drop_eq_getElem_cons h, nv_cons]
theorem nv_inj {l l' : List Int} (h : Dig l) (h' : Dig l') (hl : l.length = l'.length) (e : nv l = nv l') : l = l' := by
  induction l generalizing l' with
  | nil => cases l' with
    | nil => rfl
    | cons d l => simp at hl
  | cons d l ih =>
    cases l' with
    | nil => simp at hl
    | cons d' l' =>
      obtain ⟨⟨a, b⟩, c⟩ := h.cons
      obtain ⟨⟨a', b'⟩, c'⟩ := h'.cons
      rw [nv_cons, nv_cons] at e
      have e1 : d = d' := by omega
      subst e1
      rw [ih c c' (by simpa using hl) (by omega)]
/-- Nothing but the number: no nought on top. -/
def Top (l : List Int) : Prop := l ≠ [] → bp (l.length - 1) ≤ nv l
theorem Top.length_le {l : List Int} (h : Top l) {n : Nat} (hn : nv l < bp n) : l.length ≤ n := by
  by_cases he : l = []
  · subst he; simp
  · have h1 := h he
    refine Decidable.byContradiction fun hc => ?_
    have := bp_mono (show n ≤ l.length - 1 by omega)
    omega
theorem Top.inj {l l' : List Int} (h : Dig l) (h' : Dig l') (t : Top l) (t' : Top l') (e : nv l = nv l') : l = l' := by
  have b := nv_bounds h
  have b' := nv_bounds h'
  have h1 := t.length_le (n := l'.length) (by omega)
  have h2 := t'.length_le (n := l.length) (by omega)
  exact nv_inj h h' (by omega) e
theorem Top.of_last {l : List Int} (h : Dig l) (hl : 0 < l.length) (hz : l[l.length - 1]'(by omega) ≠ 0) : Top l := by
  intro _
  have h1 := nv_take_succ (l := l) (i := l.length - 1) (by omega)
  rw [show l.length - 1 + 1 = l.length by omega, List.take_length] at h1
  have h2 := (nv_bounds (h.take (l.length - 1))).1
  have h3 := h.get (i := l.length - 1) (by omega)
  have h4 := bp_pos (l.length - 1)
  have : bp (l.length - 1) * 1 ≤ bp (l.length - 1) * l[l.length - 1] := Int.mul_le_mul_of_nonneg_left (by omega) (by omega)
  omega
theorem nv_pos {l : List Int} (t : Top l) (he : l ≠ []) : 0 < nv l := by
  have := t he
  have := bp_pos (l.length - 1)
  omega
/-- A nought on top may go. -/
theorem nv_last_zero {l : List Int} (hl : 0 < l.length) (hz : l[l.length - 1]'(by omega) = 0) : nv (l.take (l.length - 1)) = nv l := by
  have h1 := nv_take_succ (l := l) (i := l.length - 1) (by omega)
  rw [show l.length - 1 + 1 = l.length by omega, List.take_length, hz] at h1
  omega
/-- A number's digits, divided by P, where P times Q is 2^32. -/
def dn (P Q : Int) : List Int → List Int
  | [] => []
  | a :: l => (a / P + (l.headD 0 % P) * Q) :: dn P Q l
theorem dn_length (P Q : Int) (l : List Int) : (dn P Q l).length = l.length := by
  induction l with
  | nil => rfl
  | cons a l ih => simp [dn, ih]
theorem dn_nv {P Q : Int} (hP : 0 < P) (hPQ : P * Q = 4294967296) (l : List Int) : nv (dn P Q l) * P + l.headD 0 % P = nv l := by
  induction l with
  | nil => simp [dn, nv]
  | cons a l ih =>
    have h1 := Int.emod_add_mul_ediv a P
    simp only [dn, nv_cons, List.headD_cons]
    rw [← ih]
    grind
theorem dn_get {P Q : Int} {l : List Int} {i : Nat} (h : i < l.length) : (dn P Q l)[i]'(by rw [dn_length]; exact h) = l[i] / P + (if h2 : i + 1 < l.length then l[i + 1] % P else 0) * Q := by
  induction l generalizing i with
  | nil => simp at h
  | cons a l ih =>
    cases i with
    | zero =>
      cases l with
      | nil => simp [dn]
      | cons b l => simp [dn]
    | succ i =>
      have hi : i < l.length := by simpa using h
      simp only [dn, List.getElem_cons_succ, ih hi]
      by_cases h2 : i + 1 < l.length
      · rw [dif_pos h2, dif_pos (by simpa using h2)]
      · rw [dif_neg h2, dif_neg (by simpa using h2)]
theorem dn_dig {P Q : Int} (hP : 0 < P) (hQ : 0 < Q) (hPQ : P * Q = 4294967296) {l : List Int} (h : Dig l) : Dig (dn P Q l) := by
  induction l with
  | nil => exact Dig.nil
  | cons a l ih =>
    obtain ⟨⟨h0, h1⟩, h2⟩ := h.cons
    have d0 := Int.ediv_nonneg h0 (Int.le_of_lt hP)
    have d1 : a / P < Q := Int.ediv_lt_of_lt_mul hP (by rw [Int.mul_comm]; omega)
    have r0 := Int.emod_nonneg (l.headD 0) (show P ≠ 0 by omega)
    have r1 := Int.emod_lt_of_pos (l.headD 0) hP
    have m0 := Int.mul_nonneg r0 (Int.le_of_lt hQ)
    have m1 : (l.headD 0 % P) * Q ≤ (P - 1) * Q := Int.mul_le_mul_of_nonneg_right (by omega) (Int.le_of_lt hQ)
    have m2 : (P - 1) * Q = 4294967296 - Q := by grind
    exact Dig.mk (by omega) (by omega) (ih h2)
/-- Of a list the first i stand, the others are noughts. -/
def stp (L : List Int) (i : Nat) : List Int := L.take i ++ List.replicate (L.length - i) 0
theorem stp_length {L : List Int} {i : Nat} (h : i ≤ L.length) : (stp L i).length = L.length := by simp [stp]; omega
theorem stp_zero (L : List Int) : stp L 0 = List.replicate L.length 0 := by simp [stp]
theorem stp_full (L : List Int) : stp L L.length = L := by simp [stp]
theorem stp_set {L : List Int} {i : Nat} (h : i < L.length) : (stp L i).set i L[i] = stp L (i + 1) := by
  apply List.ext_getElem
  · rw [List.length_set, stp_length (by omega), stp_length (by omega)]
  · intro x h1 h2
    have hx : x < L.length := by rw [stp_length (by omega)] at h2; exact h2
    have get : ∀ j, (hj : j ≤ L.length) → ∀ hh : x < (stp L j).length, (stp L j)[x] = if x < j then L[x] else 0 := by
      intro j hj hh
      simp only [stp]
      by_cases c : x < j
      · rw [if_pos c, List.getElem_append_left (by simp; omega)]
        simp
      · rw [if_neg c, List.getElem_append_right (by simp; omega)]
        simp
    rw [List.getElem_set, get (i + 1) (by omega) h2]
    by_cases e : i = x
    · subst e
      rw [if_pos rfl, if_pos (by omega)]
    · rw [if_neg e, get i (by omega) _]
      by_cases c : x < i
      · rw [if_pos c, if_pos (by omega)]
      · rw [if_neg c, if_neg (by omega)]
end Gim
namespace Gim
open Go Go.RowKit Go.Proofs.YtkkfghecmhmdpaaDoorW.PrintWords Go.Proofs.YtkkfghecmhmdpaaDoorW.PrintLast Go.Proofs.YtkkfghecmhmdpaaDoorW.PrintMore Go.Proofs.YtkkfghecmhmdpaaDoor.F
set_option linter.unusedVariables false

theorem wu32_mod (x : Int) : IntKind.u32.wrap x = x % 4294967296 := by simp [IntKind.wrap, IntKind.bits, IntKind.signed]
theorem wraps_u32 (n : Int) (h₀ : 0 ≤ n) (h₁ : n < 2 ^ 32) : IntKind.u32.wrap n = n := by
  rw [wu32_mod]; have : n < 4294967296 := by simpa using h₁
  omega
theorem u32_or (i : Nat) {x y : Int} (hx₀ : 0 ≤ x) (hx : x % 2 ^ i = 0) (hx₁ : x < 4294967296) (hy₀ : 0 ≤ y) (hy : y < 2 ^ i) (hy₁ : y < 4294967296) : bits .or .u32 x y = x + y :=
  bits_join .u32 32 (by decide) wraps_u32 i x y hx₀ hx (by simpa using hx₁) hy₀ hy (by simpa using hy₁)
theorem shl_u32 {x n : Int} (hn : 0 ≤ n) (hn' : n ≤ 32) : shl .u32 x n = x * p2 n % 4294967296 := by
  unfold shl p2
  rw [wu32_mod, Nat.min_eq_left (by show n.toNat ≤ 32; omega)]
theorem shr_u32 {x n : Int} (hn : 0 ≤ n) (hn' : n ≤ 32) : shr .u32 x n = x / p2 n := by
  unfold shr p2
  rw [Nat.min_eq_left (by show n.toNat ≤ 32; omega)]
theorem p2_32 : p2 32 = 4294967296 := by decide
theorem p2_split {s : Int} (h0 : 0 ≤ s) (h1 : s ≤ 32) : p2 s * p2 (32 - s) = 4294967296 := by
  rw [← p2_add h0 (by omega), show s + (32 - s) = 32 by omega, p2_32]
theorem rd_nat {l : List Int} {i : Nat} (h : i < l.length) : rd l (i : Int) = l[i] := by
  unfold rd; simp [List.getD_eq_getElem?_getD, h]
theorem rd_zero {l : List Int} (h : 0 < l.length) : rd l 0 = l[0] := rd_nat (i := 0) h
theorem p2_mod {s : Int} (h0 : 0 ≤ s) (x : Int) : (x * p2 s) % 2 ^ s.toNat = 0 := Int.mul_emod_left _ _

section
variable {m : List Int} {s : Int} (hm : Dig m) (h0 : 0 < s) (h1 : s < 32) (hl : m.length ≤ 1000000)
include hm h0 h1 hl
theorem down_l0 : ∀ n i : Nat, m.length - i = n → i ≤ m.length → ∀ r, Ev (fun K => dyad_down.l0 K m s (dn (p2 s) (p2 (32 - s)) m) m.length m.length) r →
    Ev (fun K => dyad_down.l0 K m s (stp (dn (p2 s) (p2 (32 - s)) m) i) m.length i) r := by
  intro n
  induction n with
  | zero =>
    intro i e1 e2 r hr
    obtain rfl : i = m.length := by omega
    have := stp_full (dn (p2 s) (p2 (32 - s)) m)
    rw [dn_length] at this
    rw [this]; exact hr
  | succ n ih =>
    intro i e1 e2 r hr
    have hi : i < m.length := by omega
    have hP := p2_pos s
    have hQ := p2_pos (32 - s)
    have hPQ := p2_split (s := s) (by omega) (by omega)
    have hD := dn_length (p2 s) (p2 (32 - s)) m
    have sl : (stp (dn (p2 s) (p2 (32 - s)) m) i).length = m.length := by rw [stp_length (by omega), hD]
    have hg := dn_get (P := p2 s) (Q := p2 (32 - s)) hi
    have hset := stp_set (L := dn (p2 s) (p2 (32 - s)) m) (i := i) (by omega)
    have hrec := ih (i + 1) (by omega) (by omega) r hr
    have hd := hm.get hi
    refine Ev.succ ?_
    simp only [dyad_down.l0]
    refine Ev.pos (by omega) (Ev.pos (by omega) (Ev.pos (by omega) (Ev.pos (by omega) (Ev.pos (by omega) ?_))))
    rw [rd_nat hi, shr_u32 (by omega) (by omega), Int.toNat_natCast, w64 (x := (i : Int) + 1) (by omega) (by omega)]
    by_cases h2 : i + 1 < m.length
    · refine Ev.pos (by omega) (Ev.pos (by omega) ?_)
      rw [w64 (x := 32 - s) (by omega) (by omega)]
      refine Ev.pos (by omega) ?_
      have hd2 := hm.get h2
      have e3 : rd m ((i : Int) + 1) = m[i + 1] := rd_nat (i := i + 1) h2
      have e4 : rd ((stp (dn (p2 s) (p2 (32 - s)) m) i).set i (m[i] / p2 s)) (i : Int) = m[i] / p2 s := by
        rw [rd_nat (by rw [List.length_set]; omega)]; simp
      have e5 : m[i + 1] * p2 (32 - s) % 4294967296 = (m[i + 1] % p2 s) * p2 (32 - s) := by
        rw [← hPQ, Int.mul_comm m[i + 1], Int.mul_comm (p2 s), Int.mul_emod_mul_of_pos _ _ hQ, Int.mul_comm]
      have d0 := Int.ediv_nonneg hd.1 (Int.le_of_lt hP)
      have d1 : m[i] / p2 s < p2 (32 - s) := Int.ediv_lt_of_lt_mul hP (by rw [Int.mul_comm]; omega)
      have r0 := Int.emod_nonneg m[i + 1] (show p2 s ≠ 0 by omega)
      have r1 := Int.emod_lt_of_pos m[i + 1] hP
      have m0 := Int.mul_nonneg r0 (Int.le_of_lt hQ)
      have m1 : (m[i + 1] % p2 s) * p2 (32 - s) ≤ (p2 s - 1) * p2 (32 - s) := Int.mul_le_mul_of_nonneg_right (by omega) (Int.le_of_lt hQ)
      have m2 : (p2 s - 1) * p2 (32 - s) = 4294967296 - p2 (32 - s) := by grind
      rw [e3, e4, shl_u32 (by omega) (by omega), e5, bits_or_comm, u32_or (32 - s).toNat m0 (p2_mod (by omega) _) (by omega) d0 d1 (by omega), List.set_set]
      rw [dif_pos h2] at hg
      rw [Int.add_comm, ← hg, hset]
      exact hrec
    · refine Ev.neg (by omega) ?_
      rw [dif_neg h2, Int.zero_mul, Int.add_zero] at hg
      rw [← hg, hset]
      exact hrec
/-- Down: a number divided by 2^s, which divides it. -/
theorem down_ev (hT : Top m) (hne : m ≠ []) (hd : nv m % p2 s = 0) : ∃ r, Ev (fun K => dyad_down.f K m s) r ∧ Dig r ∧ Top r ∧ nv r * p2 s = nv m ∧ r.length ≤ m.length ∧ r ≠ [] := by
  have hP := p2_pos s
  have hQ := p2_pos (32 - s)
  have hPQ := p2_split (s := s) (by omega) (by omega)
  have hD := dn_length (p2 s) (p2 (32 - s)) m
  have hpos := nv_pos hT hne
  have hlen : 0 < m.length := List.length_pos_iff.mpr hne
  have hdd := dn_dig hP hQ hPQ hm
  have hv : nv (dn (p2 s) (p2 (32 - s)) m) * p2 s = nv m := by
    have h2 := dn_nv hP hPQ m
    have h3 : m.headD 0 % p2 s = 0 := by
      rw [← h2, Int.add_emod, Int.mul_emod_left, Int.zero_add, Int.emod_emod_of_dvd _ (Int.dvd_refl _), Int.emod_emod_of_dvd _ (Int.dvd_refl _)] at hd
      exact hd
    omega
  have hvpos : 0 < nv (dn (p2 s) (p2 (32 - s)) m) := by
    refine Decidable.byContradiction fun hc => ?_
    have := Int.mul_le_mul_of_nonneg_right (show nv (dn (p2 s) (p2 (32 - s)) m) ≤ 0 by omega) (Int.le_of_lt hP)
    omega
  have start : ∀ r, Ev (fun K => dyad_down.l0 K m s (dn (p2 s) (p2 (32 - s)) m) m.length m.length) r → Ev (fun K => dyad_down.f K m s) r := by
    intro r hr
    unfold dyad_down.f
    have p1 : (m.length : Int) ≤ 70368744177664 := by omega
    refine Ev.pos (Int.natCast_nonneg _) (Ev.pos p1 ?_)
    have := down_l0 hm h0 h1 hl m.length 0 (by omega) (by omega) r hr
    rw [stp_zero, hD] at this
    rw [Int.toNat_natCast]
    exact this
  generalize hL : dn (p2 s) (p2 (32 - s)) m = L at *
  by_cases hz : L[L.length - 1]'(by omega) = 0
  · refine ⟨L.take (L.length - 1), start _ (Ev.succ ?_), hdd.take _, ?_, ?_, ?_, ?_⟩
    · simp only [dyad_down.l0]
      refine Ev.neg (by omega) (Ev.pos (by omega) ?_)
      rw [w64 (by omega) (by omega)]
      have e : ((L.length : Int) - 1) = ((L.length - 1 : Nat) : Int) := by omega
      rw [e]
      refine Ev.pos (by omega) (Ev.pos (by omega) (Ev.pos (by rw [rd_nat (by omega)]; exact hz) (Ev.pos (by omega) (Ev.pos (by omega) ?_))))
      rw [Int.toNat_natCast]
      exact Ev.now _
    · intro hne2
      have e2 := nv_last_zero (l := L) (by omega) hz
      have h3 := hT hne
      rw [List.length_take, Nat.min_eq_left (by omega), e2]
      have hn2 : 2 ≤ m.length := by
        refine Decidable.byContradiction fun hc => ?_
        apply hne2
        rw [show L.length - 1 = 0 by omega, List.take_zero]
      have h4 : bp (m.length - 1) = 4294967296 * bp (m.length - 2) := by rw [← bp_succ, show m.length - 2 + 1 = m.length - 1 by omega]
      have h5 := bp_pos (m.length - 2)
      rw [show L.length - 1 - 1 = m.length - 2 by omega]
      refine Decidable.byContradiction fun hc => ?_
      have h6 := Int.mul_le_mul_of_nonneg_right (show nv L ≤ bp (m.length - 2) - 1 by omega) (Int.le_of_lt hP)
      have h7 : p2 s ≤ 4294967296 := by rw [← p2_32]; exact p2_le (by omega)
      have h8 := Int.mul_le_mul_of_nonneg_left h7 (Int.le_of_lt h5)
      have h9 : (bp (m.length - 2) - 1) * p2 s = bp (m.length - 2) * p2 s - p2 s := by grind
      omega
    · rw [nv_last_zero (by omega) hz]; exact hv
    · rw [List.length_take]; omega
    · intro hh
      have := nv_last_zero (l := L) (by omega) hz
      rw [hh] at this
      simp [nv] at this
      omega
  · refine ⟨L, start _ (Ev.succ ?_), hdd, Top.of_last hdd (by omega) hz, hv, by omega, fun hh => by rw [hh] at hvpos; simp [nv] at hvpos⟩
    simp only [dyad_down.l0]
    refine Ev.neg (by omega) (Ev.pos (by omega) ?_)
    rw [w64 (by omega) (by omega)]
    have e : ((L.length : Int) - 1) = ((L.length - 1 : Nat) : Int) := by omega
    rw [e]
    exact Ev.pos (by omega) (Ev.pos (by omega) (Ev.neg (by rw [rd_nat (by omega)]; exact hz) (Ev.now _)))
end

/-- A number in its only form: nought, or odd digits with no nought on top. -/
def Can (neg : Bool) (m : List Int) (e : Int) : Prop := Dig m ∧ Top m ∧ ((m = [] ∧ neg = false ∧ e = 0) ∨ (m ≠ [] ∧ nv m % 2 = 1))
/-- What it stands for. -/
def nval (neg : Bool) (m : List Int) (e : Int) : Rat := if neg then -((nv m : Rat) * pw e) else (nv m : Rat) * pw e
theorem ctz_spec {x : Int} (h0 : 0 < x) (h1 : x < 4294967296) : ∃ s : Nat, bits_TrailingZeros32.f x = some (s : Int) ∧ s < 32 ∧ ∃ q, x = p2 s * (2 * q + 1) := by
  obtain ⟨a, rfl⟩ := Int.eq_ofNat_of_zero_le (Int.le_of_lt h0)
  have ha : a ≠ 0 := by omega
  obtain ⟨q, e, hs⟩ := Lib.ctzFrom_spec 32 a (by omega) (by omega)
  refine ⟨Lib.ctzFrom 32 a, ?_, hs, (q : Int), ?_⟩
  · have ha2 : a < 4294967296 := by omega
    obtain ⟨hlow, hk⟩ := Lib.lowest_bit 32 a ha ha2
    obtain ⟨hi, htab⟩ := Lib.deBruijn32_at _ hk
    have key := Go.Proofs.tz32_key a (2 ^ Lib.ctz 32 a) ha2 ha hlow
    have hc : Lib.ctz 32 a = Lib.ctzFrom 32 a := by unfold Lib.ctz; rw [if_neg ha]
    rw [hc] at key hi htab hk
    clear hlow hc
    obtain ⟨idx, hidx⟩ : ∃ i, i = 2 ^ Lib.ctzFrom 32 a * 125613361 % 4294967296 / 134217728 := ⟨_, rfl⟩
    rw [← hidx] at key hi htab
    clear hidx
    obtain ⟨c, hcc⟩ : ∃ c, c = Lib.ctzFrom 32 a := ⟨_, rfl⟩
    rw [← hcc] at htab ⊢
    have hl : idx < Lib.deBruijn32tab.length := hi
    have hv : rd tab32 (idx : Int) = ((c : Nat) : Int) := by
      have e : tab32 = Lib.deBruijn32tab.map Int.ofNat := rfl
      unfold rd
      rw [List.getD_eq_getElem?_getD, List.getElem?_eq_getElem hl] at htab
      rw [e, Int.toNat_natCast, List.getD_eq_getElem?_getD, List.getElem?_map, List.getElem?_eq_getElem hl]
      exact congrArg Int.ofNat htab
    have i0 : (0 : Int) ≤ (idx : Int) := Int.natCast_nonneg _
    have i1 : (idx : Int) < 32 := by omega
    unfold bits_TrailingZeros32.f
    rw [if_neg (by omega), key, if_pos i0, if_pos i1, hv, w64 (by omega) (by omega)]
  · have : ((a : Nat) : Int) = ((2 ^ Lib.ctzFrom 32 a * (2 * q + 1) : Nat) : Int) := congrArg _ e
    rw [this]
    unfold p2
    push_cast
    rw [Int.toNat_natCast]
theorem nv_head_mod {l : List Int} (h : 0 < l.length) : ∃ q, nv l = l[0] + 4294967296 * q := by
  cases l with
  | nil => simp at h
  | cons a l => exact ⟨nv l, rfl⟩

section
variable {neg : Bool} {l : List Int} {e : Int} (hl : Dig l) (hn : l.length ≤ 1000000) (he0 : -1000000000 ≤ e) (he1 : e ≤ 1000000000)
include hl hn he0 he1
theorem trim_l1 (ht : Top l) (hne : l ≠ []) : ∀ n k : Nat, l.length - k = n → k < l.length → nv (l.take k) = 0 →
    ∃ n' m' e', Ev (fun K => dyad_trim.l1 K neg l e k) (n', m', e') ∧ Can n' m' e' ∧ nval n' m' e' = nval neg l e := by
  intro n
  induction n with
  | zero => intro k e1 e2; omega
  | succ n ih =>
    intro k e1 e2 hz
    by_cases h0 : l[k] = 0
    · have hk2 : k + 1 < l.length := by
        refine Decidable.byContradiction fun hc => ?_
        have h1 := nv_take_succ e2
        rw [h0, hz, show k + 1 = l.length by omega, List.take_length] at h1
        have := nv_pos ht hne
        omega
      obtain ⟨n', m', e', ev, c, v⟩ := ih (k + 1) (by omega) hk2 (by rw [nv_take_succ e2, h0, hz]; simp)
      refine ⟨n', m', e', Ev.succ ?_, c, v⟩
      simp only [dyad_trim.l1]
      refine Ev.pos (by omega) (Ev.pos (by omega) (Ev.pos (by rw [rd_nat e2]; exact h0) ?_))
      rw [w64 (by omega) (by omega)]
      exact ev
    · have hd := hl.get e2
      obtain ⟨s, hs, hs32, q, hq⟩ := ctz_spec (x := l[k]) (by omega) hd.2
      have hY : Dig (l.drop k) := hl.drop k
      have hYl : (l.drop k).length = l.length - k := List.length_drop
      have hY0 : (l.drop k)[0]'(by omega) = l[k] := by simp
      have hYne : l.drop k ≠ [] := List.length_pos_iff.mp (by omega)
      have hsplit := nv_take_drop l k (by omega)
      rw [hz, Int.zero_add] at hsplit
      have hbk := bp_pos k
      have hYt : Top (l.drop k) := by
        intro _
        have h1 := ht hne
        rw [hYl]
        have h2 : bp (l.length - 1) = bp k * bp (l.length - k - 1) := by rw [← bp_add, show k + (l.length - k - 1) = l.length - 1 by omega]
        rw [h2, hsplit] at h1
        exact Int.le_of_mul_le_mul_left h1 hbk
      obtain ⟨t, hq2⟩ := nv_head_mod (l := l.drop k) (by omega)
      rw [hY0] at hq2
      have hval : ∀ (r : List Int) (x : Int), nv r * p2 s = nv (l.drop k) → (x = e + 32 * k + s) → nval neg r x = nval neg l e := by
        intro r x h1 h2
        have h3 : (nv r : Rat) * pw x = (nv l : Rat) * pw e := by
          rw [hsplit, ← h1, h2, pw_add, pw_add, ← bp_pw, pw_p2 (a := (s : Int)) (by omega)]
          push_cast
          grind
        unfold nval
        rw [h3]
      have step : ∀ ρ : Bool × List Int × Int, Ev (fun K => if (s : Int) > 0 then (dyad_down.f K (l.drop k) (s : Int)).bind (fun t130 => some (neg, t130, wrap64 (wrap64 (e + wrap64 (32 * (k : Int))) + (s : Int)))) else some (neg, l.drop k, wrap64 (e + wrap64 (32 * (k : Int))))) ρ →
          Ev (fun K => dyad_trim.l1 K neg l e k) ρ := by
        intro ρ h
        refine Ev.succ ?_
        simp only [dyad_trim.l1]
        refine Ev.pos (by omega) (Ev.pos (by omega) (Ev.neg (by rw [rd_nat e2]; exact h0) (Ev.pos (by omega) ?_)))
        rw [Int.toNat_natCast]
        refine Ev.pos (by omega) ?_
        rw [rd_zero (by omega), hY0]
        exact Ev.call hs h
      have w1 : wrap64 (e + wrap64 (32 * (k : Int))) = e + 32 * k := by rw [w64 (x := 32 * (k : Int)) (by omega) (by omega), w64 (by omega) (by omega)]
      by_cases hs0 : s = 0
      · subst hs0
        have hp0 : p2 ((0 : Nat) : Int) = 1 := p2_0
        rw [hp0, Int.one_mul] at hq
        refine ⟨neg, l.drop k, e + 32 * k, step _ (Ev.neg (by omega) ?_), ⟨hY, hYt, .inr ⟨hYne, by rw [hq2, hq]; omega⟩⟩, hval _ _ (by rw [hp0, Int.mul_one]) (by omega)⟩
        rw [w1]
        exact Ev.now _
      · have hdiv : nv (l.drop k) % p2 s = 0 := by
          have h32 : (4294967296 : Int) = p2 s * p2 (32 - s) := (p2_split (by omega) (by omega)).symm
          rw [hq2, hq, h32, Int.mul_assoc, ← Int.mul_add]
          exact Int.mul_emod_right _ _
        obtain ⟨r, ev, rd_, rt, rv, rl, rne⟩ := down_ev (m := l.drop k) (s := (s : Int)) hY (by omega) (by omega) (by omega) hYt hYne hdiv
        refine ⟨neg, r, e + 32 * k + s, step _ (Ev.pos (by omega) (Ev.bind ev ?_)), ⟨rd_, rt, .inr ⟨rne, ?_⟩⟩, hval _ _ rv rfl⟩
        · rw [w1, w64 (by omega) (by omega)]
          exact Ev.now _
        · have hP := p2_pos s
          have h32 : (4294967296 : Int) = p2 s * (2 * p2 (32 - s - 1)) := by
            rw [← p2_split (s := (s : Int)) (by omega) (by omega), ← p2_succ (by omega), show (32 : Int) - s - 1 + 1 = 32 - s by omega]
          have h4 : nv r = 2 * q + 1 + 2 * (p2 (32 - s - 1) * t) := by
            have h5 : nv r * p2 s = (2 * q + 1 + 2 * (p2 (32 - s - 1) * t)) * p2 s := by
              rw [rv, hq2, hq, h32]; grind
            exact Int.eq_of_mul_eq_mul_right (by omega) h5
          omega
/-- Trim: the only form of a number. -/
theorem trim_ev : ∃ n' m' e', Ev (fun K => dyad_trim.f K neg l e) (n', m', e') ∧ Can n' m' e' ∧ nval n' m' e' = nval neg l e := by
  have key : ∀ n k : Nat, k = n → k ≤ l.length → nv (l.take k) = nv l → ∃ n' m' e', Ev (fun K => dyad_trim.l0 K neg l e k) (n', m', e') ∧ Can n' m' e' ∧ nval n' m' e' = nval neg l e := by
    intro n
    induction n with
    | zero =>
      intro k e1 e2 hv
      subst e1
      refine ⟨false, [], 0, Ev.succ ?_, ⟨Dig.nil, fun h => absurd rfl h, .inl ⟨rfl, rfl, rfl⟩⟩, ?_⟩
      · simp only [dyad_trim.l0]
        refine Ev.neg (by omega) (Ev.succ ?_)
        simp only [dyad_trim.j1]
        exact Ev.pos (by omega) (Ev.pos (by omega) (Ev.pos (by omega) (Ev.now _)))
      · have h0 : nv l = 0 := by rw [← hv]; simp [nv]
        unfold nval
        rw [h0]
        cases neg <;> simp [nv]
    | succ n ih =>
      intro k e1 e2 hv
      subst e1
      have hi : n < l.length := by omega
      by_cases h0 : l[n] = 0
      · obtain ⟨n', m', e', ev, c, v⟩ := ih n rfl (by omega) (by rw [← hv, nv_take_succ hi, h0]; simp)
        refine ⟨n', m', e', Ev.succ ?_, c, v⟩
        simp only [dyad_trim.l0]
        refine Ev.pos (by omega) ?_
        have e : wrap64 (((n + 1 : Nat) : Int) - 1) = (n : Int) := by rw [w64 (by omega) (by omega)]; omega
        rw [e]
        exact Ev.pos (by omega) (Ev.pos (by omega) (Ev.pos (by rw [rd_nat hi]; exact h0) ev))
      · have hlt : (l.take (n + 1)).length = n + 1 := by rw [List.length_take]; omega
        have hlast : (l.take (n + 1))[(l.take (n + 1)).length - 1]'(by omega) = l[n] := by
          rw [List.getElem_take]; congr 1; omega
        have hT : Top (l.take (n + 1)) := Top.of_last (hl.take _) (by omega) (by rw [hlast]; exact h0)
        obtain ⟨n', m', e', ev, c, v⟩ := trim_l1 (neg := neg) (l := l.take (n + 1)) (e := e) (hl.take _) (by omega) he0 he1 hT (List.length_pos_iff.mp (by omega)) (n + 1) 0 (by omega) (by omega) (by simp [nv])
        refine ⟨n', m', e', Ev.succ ?_, c, ?_⟩
        · simp only [dyad_trim.l0]
          refine Ev.pos (by omega) ?_
          have e : wrap64 (((n + 1 : Nat) : Int) - 1) = (n : Int) := by rw [w64 (by omega) (by omega)]; omega
          rw [e]
          refine Ev.pos (by omega) (Ev.pos (by omega) (Ev.neg (by rw [rd_nat hi]; exact h0) (Ev.succ ?_)))
          simp only [dyad_trim.j1]
          refine Ev.pos (by omega) (Ev.pos (by omega) (Ev.neg (by omega) ?_))
          rw [Int.toNat_natCast]
          exact ev
        · rw [v]; unfold nval; rw [hv]
  have := key l.length l.length rfl (Nat.le_refl _) (by rw [List.take_length])
  unfold dyad_trim.f
  exact this
end

theorem bp_p2 (n : Nat) : bp n = p2 (32 * n) := by
  have e : (32 * (n : Int)).toNat = 32 * n := by omega
  unfold bp p2
  rw [e, Int.pow_mul]; rfl
section
variable {m : List Int} (hm : Dig m) (hl : m.length ≤ 1000000) {q : Nat} {s : Int} (hq : q ≤ 1000000) (s0 : 0 ≤ s) (s1 : s < 32)
include hm hl hq s0 s1
theorem up_l0 : ∀ n i : Nat, m.length - i = n → i ≤ m.length → ∀ (out : List Int) (c : Int), Dig out → out.length = q + i → 0 ≤ c → c < p2 s →
    nv out + bp (q + i) * c = bp q * (p2 s * nv (m.take i)) →
    ∃ r, Ev (fun K => dyad_up.l0 K out s c m m.length i) r ∧ Dig r ∧ r.length = q + m.length + 1 ∧ nv r = bp q * (p2 s * nv m) := by
  intro n
  induction n with
  | zero =>
    intro i e1 e2 out c hd hlen c0 c1 hv
    obtain rfl : i = m.length := by omega
    have hp32 : p2 s ≤ 4294967296 := by rw [← p2_32]; exact p2_le (by omega)
    refine ⟨out ++ [c], Ev.succ ?_, hd.append (Dig.one c0 (by omega)), by simp [hlen] <;> omega, ?_⟩
    · simp only [dyad_up.l0]
      have p1 : out.length < 35184372088832 := Nat.lt_of_le_of_lt (show out.length ≤ 2000000 by omega) (by decide)
      exact Ev.neg (by omega) (Ev.pos p1 (Ev.now _))
    · rw [nv_snoc, hlen, hv, List.take_length]
  | succ n ih =>
    intro i e1 e2 out c hd hlen c0 c1 hv
    have hi : i < m.length := by omega
    have hP := p2_pos s
    have hQ := p2_pos (32 - s)
    have hPQ := p2_split (s := s) (by omega) (by omega)
    have hx := hm.get hi
    have hp32 : p2 s ≤ 4294967296 := by rw [← p2_32]; exact p2_le (by omega)
    have d0 := Int.ediv_nonneg hx.1 (Int.le_of_lt hQ)
    have d1 : m[i] / p2 (32 - s) < p2 s := Int.ediv_lt_of_lt_mul hQ (by omega)
    have e5 : m[i] * p2 s % 4294967296 = (m[i] % p2 (32 - s)) * p2 s := by
      rw [← hPQ, Int.mul_comm m[i], Int.mul_emod_mul_of_pos _ _ hP, Int.mul_comm]
    have hdm := Int.emod_add_mul_ediv m[i] (p2 (32 - s))
    have r0 := Int.emod_nonneg m[i] (show p2 (32 - s) ≠ 0 by omega)
    have r1 := Int.emod_lt_of_pos m[i] hQ
    have m0 := Int.mul_nonneg r0 (Int.le_of_lt hP)
    have m1 : (m[i] % p2 (32 - s)) * p2 s ≤ (p2 (32 - s) - 1) * p2 s := Int.mul_le_mul_of_nonneg_right (by omega) (Int.le_of_lt hP)
    have m2 : (p2 (32 - s) - 1) * p2 s = 4294967296 - p2 s := by grind
    obtain ⟨r, ev, rd_, rl, rv⟩ := ih (i + 1) (by omega) (by omega) (out ++ [(m[i] % p2 (32 - s)) * p2 s + c]) (m[i] / p2 (32 - s)) (hd.append (Dig.one (by omega) (by omega))) (by simp [hlen] <;> omega) d0 d1 (by
      have hb : bp (q + (i + 1)) = bp (q + i) * 4294967296 := by rw [← Nat.add_assoc, bp_succ, Int.mul_comm]
      have hb2 := bp_add q i
      rw [nv_snoc, hlen, nv_take_succ hi, hb]
      have h3 : m[i] * p2 s = (m[i] % p2 (32 - s)) * p2 s + 4294967296 * (m[i] / p2 (32 - s)) := by
        rw [← hPQ]; grind
      grind)
    refine ⟨r, Ev.succ ?_, rd_, rl, rv⟩
    simp only [dyad_up.l0]
    have p1 : out.length < 35184372088832 := Nat.lt_of_le_of_lt (show out.length ≤ 2000000 by omega) (by decide)
    have hw : IntKind.u64.wrap m[i] = m[i] := wu64 hx.1 (by omega)
    refine Ev.pos (by omega) (Ev.pos (by omega) (Ev.pos (by omega) (Ev.pos s0 (Ev.pos p1 ?_))))
    rw [w64 (x := 32 - s) (by omega) (by omega), w64 (x := (i : Int) + 1) (by omega) (by omega), rd_nat hi, hw]
    refine Ev.pos (by omega) ?_
    have e6 : m[i] / p2 (32 - s) % 4294967296 = m[i] / p2 (32 - s) := Int.emod_eq_of_lt d0 (by omega)
    rw [shl_u32 (by omega) (by omega), e5, u32_or s.toNat m0 (p2_mod (by omega) _) (by omega) c0 c1 (by omega), shr_u64 (by omega) (by omega), e6]
    exact ev
end
theorem up_ev {m : List Int} (hm : Dig m) (hl : m.length ≤ 1000000) {n : Int} (h0 : 0 ≤ n) (h1 : n ≤ 10000000) :
    ∃ r, Ev (fun K => dyad_up.f K m n) r ∧ Dig r ∧ (r.length : Int) = n / 32 + m.length + 1 ∧ nv r = nv m * p2 n := by
  obtain ⟨q, hq⟩ : ∃ q : Nat, (q : Int) = n / 32 := ⟨(n / 32).toNat, by omega⟩
  have ed : Int.tdiv n 32 = n / 32 := by rw [Int.tdiv_eq_ediv_of_nonneg h0]
  have em : Int.tmod n 32 = n % 32 := by rw [Int.tmod_eq_emod_of_nonneg h0]
  have hP := p2_pos (n % 32)
  obtain ⟨r, ev, rd_, rl, rv⟩ := up_l0 hm hl (q := q) (s := n % 32) (by omega) (by omega) (by omega) m.length 0 (by omega) (by omega) (List.replicate q 0) 0 (Dig.zeros _) (by simp) (by omega) hP (by rw [nv_zeros]; simp [nv])
  refine ⟨r, ?_, rd_, by omega, ?_⟩
  · unfold dyad_up.f
    rw [ed, em, w64 (x := n / 32) (by omega) (by omega), ← hq, w64 (x := (q : Int) + (m.length : Int)) (by omega) (by omega), w64 (x := (q : Int) + (m.length : Int) + 1) (by omega) (by omega)]
    have p1 : (q : Int) + (m.length : Int) + 1 ≤ 70368744177664 := by omega
    refine Ev.pos (by omega) (Ev.pos (by omega) (Ev.pos p1 ?_))
    rw [Int.toNat_natCast]
    exact ev
  · rw [rv, bp_p2]
    have : p2 n = p2 (32 * q) * p2 (n % 32) := by rw [← p2_add (by omega) (by omega)]; congr 1; omega
    rw [this]; grind
/-- Without noughts on top. -/
theorem cut_top_ev {l : List Int} (hl : Dig l) (hn : l.length ≤ 3000000) : ∃ r, Ev (fun K => dyad_line_1.f K l) r ∧ Dig r ∧ Top r ∧ nv r = nv l ∧ r.length ≤ l.length := by
  have key : ∀ n k : Nat, k = n → k ≤ l.length → nv (l.take k) = nv l → ∃ r, Ev (fun K => dyad_line_1.l0 K l k) r ∧ Dig r ∧ Top r ∧ nv r = nv l ∧ r.length ≤ l.length := by
    intro n
    induction n with
    | zero =>
      intro k e1 e2 hv
      subst e1
      refine ⟨[], Ev.succ ?_, Dig.nil, fun h => absurd rfl h, by rw [← hv]; simp [nv], by simp⟩
      simp only [dyad_line_1.l0]
      exact Ev.neg (by omega) (Ev.pos (by omega) (Ev.pos (by omega) (Ev.now _)))
    | succ n ih =>
      intro k e1 e2 hv
      subst e1
      have hi : n < l.length := by omega
      have e : wrap64 (((n + 1 : Nat) : Int) - 1) = (n : Int) := by rw [w64 (by omega) (by omega)]; omega
      by_cases h0 : l[n] = 0
      · obtain ⟨r, ev, a, b, c, d⟩ := ih n rfl (by omega) (by rw [← hv, nv_take_succ hi, h0]; simp)
        refine ⟨r, Ev.succ ?_, a, b, c, d⟩
        simp only [dyad_line_1.l0]
        rw [e]
        exact Ev.pos (by omega) (Ev.pos (by omega) (Ev.pos (by omega) (Ev.pos (by rw [rd_nat hi]; exact h0) ev)))
      · have hlt : (l.take (n + 1)).length = n + 1 := by rw [List.length_take]; omega
        have hlast : (l.take (n + 1))[(l.take (n + 1)).length - 1]'(by omega) = l[n] := by
          rw [List.getElem_take]; congr 1; omega
        refine ⟨l.take (n + 1), Ev.succ ?_, hl.take _, Top.of_last (hl.take _) (by omega) (by rw [hlast]; exact h0), hv, by omega⟩
        simp only [dyad_line_1.l0]
        rw [e]
        refine Ev.pos (by omega) (Ev.pos (by omega) (Ev.pos (by omega) (Ev.neg (by rw [rd_nat hi]; exact h0) (Ev.pos (by omega) (Ev.pos (by omega) ?_)))))
        rw [Int.toNat_natCast]
        exact Ev.now _
  have := key l.length l.length rfl (Nat.le_refl _) (by rw [List.take_length])
  unfold dyad_line_1.f
  exact this
/-- Line: two numbers at one power of two. -/
theorem line_ev {n n' : Bool} {a b : List Int} {e e' : Int} (ha : Dig a) (hb : Dig b) (la : a.length ≤ 1000000) (lb : b.length ≤ 1000000) (e0 : -4000000 ≤ e) (e1 : e ≤ 4000000) (f0 : -4000000 ≤ e') (f1 : e' ≤ 4000000) :
    ∃ X Y d, Ev (fun K => dyad_line.f K n a e n' b e') (X, Y, d) ∧ d = mn e e' ∧ Dig X ∧ Dig Y ∧ Top X ∧ Top Y ∧ nv X = nv a * p2 (e - d) ∧ nv Y = nv b * p2 (e' - d) ∧ X.length ≤ 2000000 ∧ Y.length ≤ 2000000 := by
  have hd : mn e e' ≤ e ∧ mn e e' ≤ e' ∧ -4000000 ≤ mn e e' := by unfold mn; split <;> omega
  obtain ⟨r1, ev1, d1, l1, v1⟩ := up_ev ha la (n := e - mn e e') (by omega) (by omega)
  obtain ⟨X, ev2, d2, t2, v2, l2⟩ := cut_top_ev d1 (by omega)
  obtain ⟨r3, ev3, d3, l3, v3⟩ := up_ev hb lb (n := e' - mn e e') (by omega) (by omega)
  obtain ⟨Y, ev4, d4, t4, v4, l4⟩ := cut_top_ev d3 (by omega)
  refine ⟨X, Y, mn e e', ?_, rfl, d2, d4, t2, t4, by rw [v2, v1], by rw [v4, v3], by omega, by omega⟩
  unfold dyad_line.f
  rw [w64 (x := e - mn e e') (by omega) (by omega), w64 (x := e' - mn e e') (by omega) (by omega)]
  exact Ev.bind ev1 (Ev.bind ev2 (Ev.bind ev3 (Ev.bind ev4 (Ev.now _))))
theorem sgn_lt {x : Int} (h : x < 0) : sgn x = -1 := by unfold sgn; rw [if_pos h]
theorem sgn_gt {x : Int} (h : 0 < x) : sgn x = 1 := by unfold sgn; rw [if_neg (by omega), if_neg (by omega)]
theorem sgn_eq {x : Int} (h : x = 0) : sgn x = 0 := by unfold sgn; rw [if_neg (by omega), if_pos h]
theorem top_lt {X Y : List Int} (hX : Dig X) (tY : Top Y) (h : X.length < Y.length) : nv X < nv Y := by
  have h1 := (nv_bounds hX).2
  have h2 := tY (List.length_pos_iff.mp (by omega))
  have h3 := bp_mono (show X.length ≤ Y.length - 1 by omega)
  omega
theorem digit_lt {X Y : List Int} (hX : Dig X) (hY : Dig Y) {i : Nat} (hi : i < X.length) (hi' : i < Y.length) (h : nv (X.drop (i + 1)) = nv (Y.drop (i + 1))) (hlt : X[i] < Y[i]) : nv X < nv Y := by
  have a := nv_take_drop X i (by omega)
  have b := nv_take_drop Y i (by omega)
  have c := nv_drop hi
  have d := nv_drop hi'
  have e := (nv_bounds (hX.take i)).2
  rw [List.length_take, Nat.min_eq_left (by omega)] at e
  have f := (nv_bounds (hY.take i)).1
  have g := bp_pos i
  have k : bp i * (nv (X.drop i) + 1) ≤ bp i * nv (Y.drop i) := Int.mul_le_mul_of_nonneg_left (by omega) (Int.le_of_lt g)
  rw [Int.mul_add, Int.mul_one] at k
  omega
/-- Cmp: the sign of a difference. -/
theorem cmp_ev {X Y : List Int} (hX : Dig X) (hY : Dig Y) (tX : Top X) (tY : Top Y) (lX : X.length ≤ 3000000) (lY : Y.length ≤ 3000000) : Ev (fun K => dyad_cmp.f K X Y) (sgn (nv X - nv Y)) := by
  unfold dyad_cmp.f
  by_cases hl : X.length = Y.length
  · refine Ev.pos (by omega) ?_
    have key : ∀ j : Nat, j ≤ X.length → nv (X.drop j) = nv (Y.drop j) → Ev (fun K => dyad_cmp.l0 K X Y ((j : Int) - 1)) (sgn (nv X - nv Y)) := by
      intro j
      induction j with
      | zero =>
        intro _ h
        simp only [List.drop_zero] at h
        rw [sgn_eq (by omega)]
        refine Ev.succ ?_
        simp only [dyad_cmp.l0]
        exact Ev.neg (by omega) (Ev.now _)
      | succ j ih =>
        intro h1 h2
        have hi : j < X.length := by omega
        have hi' : j < Y.length := by omega
        have e : ((j + 1 : Nat) : Int) - 1 = (j : Int) := by omega
        rw [e]
        refine Ev.succ ?_
        simp only [dyad_cmp.l0]
        refine Ev.pos (by omega) (Ev.pos (by omega) (Ev.pos (by omega) (Ev.pos (by omega) ?_)))
        rw [rd_nat hi, rd_nat hi']
        by_cases h3 : X[j] = Y[j]
        · refine Ev.pos h3 ?_
          rw [w64 (by omega) (by omega)]
          exact ih (by omega) (by rw [nv_drop hi, nv_drop hi', h3, h2])
        · refine Ev.neg h3 ?_
          by_cases h4 : X[j] < Y[j]
          · have := digit_lt hX hY hi hi' h2 h4
            rw [sgn_lt (by omega)]
            exact Ev.pos h4 (Ev.now _)
          · have := digit_lt hY hX hi' hi h2.symm (by omega)
            rw [sgn_gt (by omega)]
            exact Ev.neg h4 (Ev.now _)
    have := key X.length (Nat.le_refl _) (by rw [List.drop_length, hl, List.drop_length])
    rw [w64 (by omega) (by omega)]
    exact this
  · refine Ev.neg (by omega) ?_
    by_cases h : X.length < Y.length
    · have := top_lt hX tY h
      rw [sgn_lt (by omega)]
      exact Ev.pos (by omega) (Ev.now _)
    · have := top_lt hY tX (by omega)
      rw [sgn_gt (by omega)]
      exact Ev.neg (by omega) (Ev.now _)
end Gim
