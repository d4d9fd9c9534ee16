/- Texts of this claim, one behind the other: what the functions answer. -/
import Derived.Test.YtlhpejbmjbcmaaaDoorRx0
import Derived.Laws.BitsLemmas
import Derived.Shelf.Spec.TrailingZeros
set_option linter.constructorNameAsVariable false
set_option linter.unusedSimpArgs false
set_option linter.unusedVariables false
set_option linter.unusedSectionVars false
namespace Gim
set_option linter.unusedVariables false

def pw (e : Int) : Rat := (2 : Rat) ^ e
theorem two_ne : (2 : Rat) ≠ 0 := by decide
theorem pw_pos (e : Int) : 0 < pw e := Rat.zpow_pos (by decide)
theorem pw_add (a b : Int) : pw (a + b) = pw a * pw b := Rat.zpow_add two_ne a b
theorem pw_zero : pw 0 = 1 := Rat.zpow_zero 2
theorem pw_one : pw 1 = 2 := Rat.zpow_one 2
theorem pw_succ (e : Int) : pw (e + 1) = 2 * pw e := by rw [pw_add, pw_one, Rat.mul_comm]
theorem pw_pred (e : Int) : 2 * pw (e - 1) = pw e := by
  have := pw_succ (e - 1)
  rw [Int.sub_add_cancel] at this
  exact this.symm
theorem pw_nat (n : Nat) : pw (n : Int) = ((2 ^ n : Int) : Rat) := by
  unfold pw
  rw [Rat.zpow_natCast]
  push_cast
  rfl
theorem pw_addNat (e : Int) (n : Nat) : pw (e + n) = ((2 ^ n : Int) : Rat) * pw e := by rw [pw_add, pw_nat, Rat.mul_comm]
theorem pw_le_add (e : Int) (n : Nat) : pw e ≤ pw (e + n) := by
  induction n with
  | zero => simp
  | succ n ih =>
    have h := pw_succ (e + n)
    have hp := pw_pos (e + n)
    have e1 : e + ((n + 1 : Nat) : Int) = e + n + 1 := by omega
    rw [e1, h]
    grind
theorem pw_mono {a b : Int} (h : a ≤ b) : pw a ≤ pw b := by
  obtain ⟨n, rfl⟩ : ∃ n : Nat, b = a + n := ⟨(b - a).toNat, by omega⟩
  exact pw_le_add a n
theorem pw_lt {a b : Int} (h : a < b) : 2 * pw a ≤ pw b := by
  rw [← pw_succ]
  exact pw_mono h
theorem pw_le_iff {a b : Int} : pw a ≤ pw b ↔ a ≤ b := by
  constructor
  · intro h
    by_cases hc : a ≤ b
    · exact hc
    · have := pw_lt (Int.not_le.mp hc)
      have := pw_pos b
      grind
  · exact pw_mono
theorem pw_neg_mul (e : Int) : pw (-e) * pw e = 1 := by rw [← pw_add, Int.add_left_neg, pw_zero]

/-- Whole numbers times one power of two: comparisons are those of the whole numbers. -/
theorem mul_pw_le {a b : Int} {e : Int} : (a : Rat) * pw e ≤ b * pw e ↔ a ≤ b := by
  have hp := pw_pos e
  constructor
  · intro h
    exact Rat.intCast_le_intCast.mp (Rat.le_of_mul_le_mul_right h hp)
  · intro h
    exact Rat.mul_le_mul_of_nonneg_right (Rat.intCast_le_intCast.mpr h) (Rat.le_of_lt hp)
theorem mul_pw_lt {a b : Int} {e : Int} : (a : Rat) * pw e < b * pw e ↔ a < b := by
  rw [← Rat.not_le, mul_pw_le, Int.not_le]
theorem mul_pw_inj {a b : Int} {e : Int} (h : (a : Rat) * pw e = b * pw e) : a = b := by
  have h1 := (mul_pw_le (e := e)).mp (by rw [h]; exact Rat.le_refl : (a : Rat) * pw e ≤ b * pw e)
  have h2 := (mul_pw_le (e := e)).mp (by rw [h]; exact Rat.le_refl : (b : Rat) * pw e ≤ a * pw e)
  omega
theorem mul_le_mul_right {a b c : Rat} (h : a ≤ b) (hc : 0 ≤ c) : a * c ≤ b * c := Rat.mul_le_mul_of_nonneg_right h hc

/-- n times 2^q is nearest to x (above 0), of two the even one. -/
structure Rnd (x : Rat) (q n : Int) : Prop where
  hq : -1074 ≤ q
  lo : q = -1074 ∨ (4503599627370496 : Int) * pw q ≤ x
  hi : x < (9007199254740992 : Int) * pw q
  pos : 0 < x
  near1 : 2 * x ≤ (2 * n + 1 : Int) * pw q
  near2 : (2 * n - 1 : Int) * pw q ≤ 2 * x
  tie1 : 2 * x = (2 * n + 1 : Int) * pw q → n % 2 = 0
  tie2 : 2 * x = (2 * n - 1 : Int) * pw q → n % 2 = 0

theorem Rnd.q_le {x y : Rat} {q n q' n' : Int} (h : Rnd x q n) (h' : Rnd y q' n') (hxy : x ≤ y) : q ≤ q' := by
  by_cases hc : q ≤ q'
  · exact hc
  · exfalso
    have hc := Int.not_le.mp hc
    have h1 : (4503599627370496 : Int) * pw q ≤ x := by
      rcases h.lo with h1 | h1
      · have := h'.hq; omega
      · exact h1
    have h2 := h'.hi
    have h3 := pw_lt hc
    push_cast at h1 h2
    grind
theorem Rnd.n_le {x : Rat} {q n : Int} (h : Rnd x q n) : n ≤ 9007199254740992 := by
  have h1 := h.near2
  have h2 := h.hi
  have h3 : (2 * n - 1 : Int) * pw q < (18014398509481984 : Int) * pw q := by push_cast at h1 h2 ⊢; grind
  have := mul_pw_lt.mp h3
  omega
theorem Rnd.n_ge {x : Rat} {q n : Int} (h : Rnd x q n) (hlo : (4503599627370496 : Int) * pw q ≤ x) : 4503599627370496 ≤ n := by
  have h1 := h.near1
  have h3 : (9007199254740992 : Int) * pw q ≤ (2 * n + 1 : Int) * pw q := by push_cast at h1 hlo ⊢; grind
  have := mul_pw_le.mp h3
  omega
theorem Rnd.n_nonneg {x : Rat} {q n : Int} (h : Rnd x q n) : 0 ≤ n := by
  have h1 := h.near1
  have h2 := h.pos
  have h3 : (0 : Int) * pw q < (2 * n + 1 : Int) * pw q := by push_cast at h1 ⊢; grind
  have := mul_pw_lt.mp h3
  omega
theorem Rnd.n_mono {x y : Rat} {q n n' : Int} (h : Rnd x q n) (h' : Rnd y q n') (hxy : x ≤ y) : n ≤ n' := by
  by_cases hc : n ≤ n'
  · exact hc
  · exfalso
    have hc := Int.not_le.mp hc
    have h1 := h.near2
    have h2 := h'.near1
    have h3 : (2 * n - 1 : Int) * pw q ≤ (2 * n' + 1 : Int) * pw q := by grind
    have h4 := mul_pw_le.mp h3
    have e : n = n' + 1 := by omega
    subst e
    have e1 : (2 * (n' + 1) - 1 : Int) = 2 * n' + 1 := by omega
    rw [e1] at h1
    have hx : 2 * x = (2 * n' + 1 : Int) * pw q := by grind
    have hy : 2 * y = (2 * n' + 1 : Int) * pw q := by grind
    have t1 := h'.tie1 hy
    have t2 := h.tie2 (by rw [e1]; exact hx)
    omega
theorem Rnd.unique {x : Rat} {q n q' n' : Int} (h : Rnd x q n) (h' : Rnd x q' n') : q = q' ∧ n = n' := by
  have h1 := h.q_le h' Rat.le_refl
  have h2 := h'.q_le h Rat.le_refl
  obtain rfl : q = q' := by omega
  have h3 := h.n_mono h' Rat.le_refl
  have h4 := h'.n_mono h Rat.le_refl
  omega

/-- The pattern of n times 2^q, where exponents have no upper bound. -/
def enc (q n : Int) : Int := (q + 1074) * 4503599627370496 + n

theorem Rnd.enc_mono {x y : Rat} {q n q' n' : Int} (h : Rnd x q n) (h' : Rnd y q' n') (hxy : x ≤ y) : enc q n ≤ enc q' n' := by
  have h1 := h.q_le h' hxy
  by_cases hc : q = q'
  · subst hc
    have := h.n_mono h' hxy
    unfold enc
    omega
  · have h2 := h.n_le
    have h3 : 4503599627370496 ≤ n' := by
      rcases h'.lo with h3 | h3
      · have := h.hq; omega
      · exact h'.n_ge h3
    unfold enc
    omega
theorem Rnd.enc_nonneg {x : Rat} {q n : Int} (h : Rnd x q n) : 0 ≤ enc q n := by
  have := h.hq; have := h.n_nonneg; unfold enc; omega

/-- A pattern without its sign: its whole number, its power, its value. -/
def mant (m : Int) : Int := if m < 4503599627370496 then m else m % 4503599627370496 + 4503599627370496
def expo (m : Int) : Int := if m < 4503599627370496 then -1074 else m / 4503599627370496 - 1075
def vm (m : Int) : Rat := (mant m : Rat) * pw (expo m)

theorem enc_mant (m : Int) (h : 0 ≤ m) : enc (expo m) (mant m) = m := by
  unfold enc expo mant
  split <;> omega
theorem mant_nonneg {m : Int} (h : 0 ≤ m) : 0 ≤ mant m := by unfold mant; split <;> omega
theorem mant_lt {m : Int} : mant m < 9007199254740992 := by unfold mant; split <;> omega
theorem expo_ge {m : Int} (h : 0 ≤ m) : -1074 ≤ expo m := by unfold expo; split <;> omega
theorem mant_ge {m : Int} (h : 0 ≤ m) : expo m = -1074 ∨ 4503599627370496 ≤ mant m := by unfold expo mant; split <;> omega
theorem vm_zero : vm 0 = 0 := by unfold vm mant; simp
theorem vm_nonneg {m : Int} (h : 0 ≤ m) : 0 ≤ vm m := by
  unfold vm
  have h1 : (0 : Rat) ≤ (mant m : Rat) := by exact_mod_cast mant_nonneg h
  exact Rat.mul_nonneg h1 (Rat.le_of_lt (pw_pos _))
theorem mant_pos {m : Int} (h : 0 < m) : 0 < mant m := by unfold mant; split <;> omega
theorem vm_pos {m : Int} (h : 0 < m) : 0 < vm m := by
  unfold vm
  have h1 : (0 : Rat) < (mant m : Rat) := by exact_mod_cast mant_pos h
  exact Rat.mul_pos h1 (pw_pos _)

/-- A number that is told already is nearest to itself. -/
theorem Rnd.self {q n : Int} (hq : -1074 ≤ q) (hn : 0 < n) (h1 : n < 9007199254740992) (h2 : q = -1074 ∨ 4503599627370496 ≤ n) : Rnd ((n : Rat) * pw q) q n := by
  have hp := pw_pos q
  have hn' : (0 : Rat) < (n : Rat) := by exact_mod_cast hn
  refine ⟨hq, ?_, mul_pw_lt.mpr h1, Rat.mul_pos hn' hp, ?_, ?_, ?_, ?_⟩
  · rcases h2 with h2 | h2
    · exact .inl h2
    · exact .inr (mul_pw_le.mpr h2)
  · push_cast; grind
  · push_cast; grind
  · intro h; push_cast at h; grind
  · intro h; push_cast at h; grind
theorem Rnd.of_vm {m : Int} (h : 0 < m) : Rnd (vm m) (expo m) (mant m) :=
  Rnd.self (expo_ge (Int.le_of_lt h)) (mant_pos h) mant_lt (mant_ge (Int.le_of_lt h))

theorem vm_mono {m m' : Int} (h0 : 0 ≤ m) (h : m ≤ m') : vm m ≤ vm m' := by
  by_cases hm : m = 0
  · subst hm; rw [vm_zero]; exact vm_nonneg (by omega)
  · by_cases hc : vm m ≤ vm m'
    · exact hc
    · have h1 := (Rnd.of_vm (m := m') (by omega)).enc_mono (Rnd.of_vm (m := m) (by omega)) (Rat.le_of_lt (Rat.not_le.mp hc))
      rw [enc_mant _ (by omega), enc_mant _ (by omega)] at h1
      obtain rfl : m = m' := by omega
      exact Rat.le_refl
/-- The value of what comes of rounding. -/
theorem vm_enc {q n : Int} (hq : -1074 ≤ q) (hn : 0 ≤ n) (h1 : n ≤ 9007199254740992) (h2 : q = -1074 ∨ 4503599627370496 ≤ n) : vm (enc q n) = (n : Rat) * pw q := by
  unfold vm
  by_cases ha : n < 4503599627370496
  · obtain rfl : q = -1074 := by omega
    have e : enc (-1074) n = n := by unfold enc; omega
    rw [e]
    unfold mant expo
    rw [if_pos ha, if_pos ha]
  · by_cases hb : n = 9007199254740992
    · subst hb
      have e1 : mant (enc q 9007199254740992) = 4503599627370496 := by unfold mant enc; rw [if_neg (by omega)]; omega
      have e2 : expo (enc q 9007199254740992) = q + 1 := by unfold expo enc; rw [if_neg (by omega)]; omega
      rw [e1, e2, pw_succ]
      push_cast
      grind
    · have e1 : mant (enc q n) = n := by unfold mant enc; rw [if_neg (by omega)]; omega
      have e2 : expo (enc q n) = q := by unfold expo enc; rw [if_neg (by omega)]; omega
      rw [e1, e2]
theorem Rnd.n_ge' {x : Rat} {q n : Int} (h : Rnd x q n) : q = -1074 ∨ 4503599627370496 ≤ n := by
  rcases h.lo with h1 | h1
  · exact .inl h1
  · exact .inr (h.n_ge h1)
theorem Rnd.val_enc {x : Rat} {q n : Int} (h : Rnd x q n) : vm (enc q n) = (n : Rat) * pw q :=
  vm_enc h.hq h.n_nonneg h.n_le h.n_ge'

/-- What rounding answers: a pattern without sign, and flags. -/
def INF : Int := 9218868437227405312
structure RB (x : Rat) (b f : Int) : Prop where
  ex : ∃ q n, Rnd x q n ∧ b = (if enc q n < INF then enc q n else INF) ∧
    f = if enc q n < INF then (if x = (n : Rat) * pw q then 0 else if x < pw (-1022) then 3 else 1) else 5

theorem RB.unique {x : Rat} {b f b' f' : Int} (h : RB x b f) (h' : RB x b' f') : b = b' ∧ f = f' := by
  obtain ⟨q, n, hr, rfl, rfl⟩ := h.ex
  obtain ⟨q', n', hr', rfl, rfl⟩ := h'.ex
  obtain ⟨rfl, rfl⟩ := hr.unique hr'
  exact ⟨rfl, rfl⟩
theorem RB.mono {x y : Rat} {b f b' f' : Int} (h : RB x b f) (h' : RB y b' f') (hxy : x ≤ y) : b ≤ b' := by
  obtain ⟨q, n, hr, rfl, rfl⟩ := h.ex
  obtain ⟨q', n', hr', rfl, rfl⟩ := h'.ex
  have := hr.enc_mono hr' hxy
  split <;> split <;> omega
theorem RB.range {x : Rat} {b f : Int} (h : RB x b f) : 0 ≤ b ∧ b ≤ INF := by
  obtain ⟨q, n, hr, rfl, rfl⟩ := h.ex
  have := hr.enc_nonneg
  unfold INF
  split <;> omega
/-- A number is rounded to itself. -/
theorem RB.self {m : Int} (h : 0 < m) (hm : m < INF) : RB (vm m) m 0 := by
  refine ⟨expo m, mant m, Rnd.of_vm h, ?_, ?_⟩
  · rw [enc_mant m (by omega), if_pos hm]
  · rw [enc_mant m (by omega), if_pos hm]; exact (if_pos rfl).symm
end Gim
namespace Gim
open Go Go.RowKit Go.Proofs.YtlhpejbmjbcmaaaDoorW.PrintWords Go.Proofs.YtlhpejbmjbcmaaaDoorW.PrintLast Go.Proofs.YtlhpejbmjbcmaaaDoorW.PrintMore
set_option linter.unusedVariables false

theorem w64 {x : Int} (h1 : -9223372036854775808 ≤ x) (h2 : x ≤ 9223372036854775807) : wrap64 x = x := by unfold wrap64; omega
theorem wu64 {x : Int} (h1 : 0 ≤ x) (h2 : x < 18446744073709551616) : IntKind.u64.wrap x = x := by
  simp [IntKind.wrap, IntKind.bits, IntKind.signed]; omega
theorem wu64_mod (x : Int) : IntKind.u64.wrap x = x % 18446744073709551616 := by
  simp [IntKind.wrap, IntKind.bits, IntKind.signed]
theorem wraps_u64 (n : Int) (h₀ : 0 ≤ n) (h₁ : n < 2 ^ 64) : IntKind.u64.wrap n = n := wu64 h₀ (by simpa using h₁)
theorem wraps_i64 (n : Int) (h₀ : 0 ≤ n) (h₁ : n < 2 ^ 63) : IntKind.i64.wrap n = n := by
  rw [IntKind.wrap_i64]; have : n < 9223372036854775808 := by simpa using h₁
  omega
theorem u64_and (i : Nat) (hi : i ≤ 64) {x : Int} (h₀ : 0 ≤ x) (h₁ : x < 18446744073709551616) : bits .and .u64 x (2 ^ i - 1) = x % 2 ^ i :=
  bits_mask .u64 64 (by decide) wraps_u64 i hi x h₀ (by simpa using h₁)
theorem u64_and1 {x : Int} (h₀ : 0 ≤ x) (h₁ : x < 18446744073709551616) : bits .and .u64 x 1 = x % 2 := u64_and 1 (by decide) h₀ h₁
theorem u64_and2047 {x : Int} (h₀ : 0 ≤ x) (h₁ : x < 18446744073709551616) : bits .and .u64 x 2047 = x % 2048 := u64_and 11 (by decide) h₀ h₁
theorem u64_and52 {x : Int} (h₀ : 0 ≤ x) (h₁ : x < 18446744073709551616) : bits .and .u64 x 4503599627370495 = x % 4503599627370496 := u64_and 52 (by decide) h₀ h₁
theorem u64_or (i : Nat) {x y : Int} (hx₀ : 0 ≤ x) (hx : x % 2 ^ i = 0) (hx₁ : x < 18446744073709551616) (hy₀ : 0 ≤ y) (hy : y < 2 ^ i) (hy₁ : y < 18446744073709551616) : bits .or .u64 x y = x + y :=
  bits_join .u64 64 (by decide) wraps_u64 i x y hx₀ hx (by simpa using hx₁) hy₀ hy (by simpa using hy₁)
theorem bits_or_comm (k : IntKind) (x y : Int) : bits .or k x y = bits .or k y x := by
  unfold bits
  simp [BitVec.or_comm]
theorem u64_or' (i : Nat) {x y : Int} (hx₀ : 0 ≤ x) (hx : x % 2 ^ i = 0) (hx₁ : x < 18446744073709551616) (hy₀ : 0 ≤ y) (hy : y < 2 ^ i) (hy₁ : y < 18446744073709551616) : bits .or .u64 y x = x + y := by
  rw [bits_or_comm]; exact u64_or i hx₀ hx hx₁ hy₀ hy hy₁
theorem u64_or_zero {x y : Int} (hx₀ : 0 ≤ x) (hx₁ : x < 18446744073709551616) (hy₀ : 0 ≤ y) (hy₁ : y < 18446744073709551616) : (bits .or .u64 x y == 0) = (x == 0 && y == 0) := by
  obtain ⟨a, rfl⟩ := Int.eq_ofNat_of_zero_le hx₀
  obtain ⟨b, rfl⟩ := Int.eq_ofNat_of_zero_le hy₀
  rw [(bits_nat .u64 64 (by decide) wraps_u64 a b (by omega) (by omega)).2]
  rw [Bool.eq_iff_iff]
  simp [Nat.or_eq_zero_iff]
theorem u64_top {x : Int} (h₀ : 0 ≤ x) (h₁ : x < 18446744073709551616) : bits .andNot .u64 x 9223372036854775808 = x % 9223372036854775808 := by
  have e : bits .andNot .u64 x 9223372036854775808 = bits .and .u64 x (2 ^ 63 - 1) := by
    unfold bits
    simp only []
    congr 3
  rw [e, u64_and 63 (by decide) h₀ h₁]
  rfl
theorem i64_and (i : Nat) (hi : i ≤ 62) (x : Int) : bits .and .i64 x (2 ^ i - 1) = x % 2 ^ i := by
  have hpos : 0 < 2 ^ i := Nat.two_pow_pos i
  have hle : 2 ^ i ≤ 2 ^ 62 := Nat.pow_le_pow_right (by decide) hi
  have hc : ((2 : Int) ^ i - 1) = ((2 ^ i - 1 : Nat) : Int) := by
    rw [Int.natCast_sub hpos]; simp
  have e : bits .and .i64 x (2 ^ i - 1) = IntKind.i64.wrap (((x % 18446744073709551616).toNat % 2 ^ i : Nat) : Int) := by
    rw [hc]
    have e0 : bits .and .i64 x ((2 ^ i - 1 : Nat) : Int) = IntKind.i64.wrap ((BitVec.ofInt 64 x &&& BitVec.ofInt 64 ((2 ^ i - 1 : Nat) : Int)).toNat : Int) := rfl
    rw [e0, BitVec.toNat_and, BitVec.ofInt_natCast, BitVec.toNat_ofNat, BitVec.toNat_ofInt,
      Nat.mod_eq_of_lt (a := 2 ^ i - 1) (by have : 2 ^ 62 < 2 ^ 64 := by decide
                                            omega), Nat.and_two_pow_sub_one_eq_mod]
    rfl
  have hb : ((x % 18446744073709551616).toNat % 2 ^ i : Nat) < 2 ^ 62 := Nat.lt_of_lt_of_le (Nat.mod_lt _ hpos) hle
  have hb' : ((x % 18446744073709551616).toNat % 2 ^ i : Nat) < 4611686018427387904 := hb
  rw [e, wraps_i64 _ (by omega) (by omega)]
  have hm : 0 ≤ x % 18446744073709551616 := by omega
  have hp : ((2 ^ i : Nat) : Int) = 2 ^ i := by simp
  rw [Int.natCast_emod, Int.toNat_of_nonneg hm, hp]
  refine Int.emod_emod_of_dvd x ⟨2 ^ (64 - i), ?_⟩
  rw [← Int.pow_add, show i + (64 - i) = 64 from by omega]
  rfl

/-- From some number of rounds on. -/
theorem Ev.succ {α : Type} {g : Nat → Option α} {r : α} (h : Ev (fun k => g (k + 1)) r) : Ev g r := by
  obtain ⟨K, hK⟩ := h
  exact ⟨K + 1, fun k hk => by obtain ⟨j, rfl⟩ : ∃ j, k = j + 1 := ⟨k - 1, by omega⟩; exact hK j (by omega)⟩
theorem Ev.pos {α : Type} {c : Prop} [Decidable c] {a b : Nat → Option α} {r : α} (h : c) (k : Ev a r) : Ev (fun n => if c then a n else b n) r := by
  obtain ⟨K, hK⟩ := k
  exact ⟨K, fun n hn => by show (if c then a n else b n) = some r; rw [if_pos h]; exact hK n hn⟩
theorem Ev.neg {α : Type} {c : Prop} [Decidable c] {a b : Nat → Option α} {r : α} (h : ¬ c) (k : Ev b r) : Ev (fun n => if c then a n else b n) r := by
  obtain ⟨K, hK⟩ := k
  exact ⟨K, fun n hn => by show (if c then a n else b n) = some r; rw [if_neg h]; exact hK n hn⟩
theorem Ev.call {α β : Type} {g : Option α} {f : Nat → α → Option β} {a : α} {r : β} (h : g = some a) (k : Ev (fun n => f n a) r) : Ev (fun n => g.bind (f n)) r := by
  obtain ⟨K, hK⟩ := k
  exact ⟨K, fun n hn => by show g.bind (f n) = some r; rw [h]; exact hK n hn⟩
theorem Ev.same {α : Type} {g f : Nat → Option α} {r : α} (h : ∀ k, g k = f k) (k : Ev f r) : Ev g r := by
  obtain ⟨K, hK⟩ := k
  exact ⟨K, fun n hn => by rw [h n]; exact hK n hn⟩
theorem Ev.det {α : Type} {g : Nat → Option α} {r q : α} (h : Ev g r) (k : Ev g q) : r = q := by
  obtain ⟨K, hK⟩ := h
  obtain ⟨L, hL⟩ := k
  have h1 := hK (K + L) (by omega)
  rw [hL (K + L) (by omega)] at h1
  exact (Option.some.inj h1).symm
theorem mul_bound {a b m n : Int} (ha : 0 ≤ a) (hb : 0 ≤ b) (hm : a ≤ m) (hn : b ≤ n) : 0 ≤ a * b ∧ a * b ≤ m * n := by
  refine ⟨Int.mul_nonneg ha hb, ?_⟩
  exact Int.mul_le_mul hm hn hb (by omega)
def sgn (x : Int) : Int := if x < 0 then -1 else if x = 0 then 0 else 1

end Gim
namespace Gim
open Go Go.RowKit Go.Proofs.YtlhpejbmjbcmaaaDoorW.PrintWords Go.Proofs.YtlhpejbmjbcmaaaDoorW.PrintLast Go.Proofs.YtlhpejbmjbcmaaaDoorW.PrintMore Go.Proofs.YtlhpejbmjbcmaaaDoor.F
set_option linter.unusedVariables false

/-- A word of 64 bits. -/
def U (a : Int) : Prop := 0 ≤ a ∧ a < 18446744073709551616
/-- What a pattern without its sign stands for. -/
def kindOf (m : Int) : Int := if m = 0 then 1 else if m < 4503599627370496 then 2 else if m < 9218868437227405312 then 3 else if m = 9218868437227405312 then 4 else 5
theorem word_Neg_eq {a : Int} (h : U a) : word_Neg.f a = some (decide (9223372036854775808 ≤ a)) := by
  obtain ⟨h0, h1⟩ := h
  unfold word_Neg.f
  congr 1
  rw [Bool.eq_iff_iff]
  simp
  omega
theorem word_Abs_eq {a : Int} (h : U a) : word_Abs.f a = some (a % 9223372036854775808) := by
  unfold word_Abs.f; rw [u64_top h.1 h.2]
theorem word_Exp_eq {a : Int} (h : U a) : word_Exp.f a = some (a / 4503599627370496 % 2048) := by
  obtain ⟨h0, h1⟩ := h
  unfold word_Exp.f
  rw [u64_and2047 (by omega) (by omega), w64 (by omega) (by omega)]
theorem word_Frac_eq {a : Int} (h : U a) : word_Frac.f a = some (a % 4503599627370496) := by
  unfold word_Frac.f; rw [u64_and52 h.1 h.2]
theorem kind1 {m : Int} : kindOf m = 1 ↔ m = 0 := by unfold kindOf; grind
theorem kind2 {m : Int} (h : 0 ≤ m) : kindOf m = 2 ↔ 0 < m ∧ m < 4503599627370496 := by unfold kindOf; grind
theorem kind3 {m : Int} (h : 0 ≤ m) : kindOf m = 3 ↔ 4503599627370496 ≤ m ∧ m < 9218868437227405312 := by unfold kindOf; grind
theorem kind4 {m : Int} (h : 0 ≤ m) : kindOf m = 4 ↔ m = 9218868437227405312 := by unfold kindOf; grind
theorem kind5 {m : Int} (h : 0 ≤ m) : kindOf m = 5 ↔ 9218868437227405312 < m := by unfold kindOf; grind
theorem mag_nonneg (a : Int) : 0 ≤ a % 9223372036854775808 := by omega
theorem word_Kind_ev {a : Int} (h : U a) : Ev (fun k => word_Kind.f k a) (kindOf (a % 9223372036854775808)) := by
  have hh := h
  obtain ⟨h0, h1⟩ := h
  unfold word_Kind.f
  refine Ev.call (word_Exp_eq hh) (Ev.call (word_Frac_eq hh) ?_)
  have hm := mag_nonneg a
  by_cases hE : a / 4503599627370496 % 2048 = 0
  · refine Ev.pos hE (Ev.succ ?_)
    simp only [word_Kind.j0]
    by_cases hF : a % 4503599627370496 = 0
    · rw [kind1.mpr (by omega)]
      exact Ev.pos (by simpa using hF) (Ev.now _)
    · rw [(kind2 hm).mpr (by omega)]
      exact Ev.neg (by simpa using hF) (Ev.pos hE (Ev.now _))
  · refine Ev.neg hE (Ev.succ ?_)
    simp only [word_Kind.j0]
    refine Ev.neg (by simp) (Ev.neg hE ?_)
    by_cases hN : a / 4503599627370496 % 2048 < 2047
    · rw [(kind3 hm).mpr (by omega)]
      exact Ev.pos hN (Ev.now _)
    · refine Ev.neg hN ?_
      by_cases hF : a % 4503599627370496 = 0
      · rw [(kind4 hm).mpr (by omega)]
        exact Ev.pos hF (Ev.now _)
      · rw [(kind5 hm).mpr (by omega)]
        exact Ev.neg hF (Ev.now _)
/-- Is it no number that signals? -/
def signals (a : Int) : Bool := decide (9218868437227405312 < a % 9223372036854775808) && decide (a / 2251799813685248 % 2 = 0)
theorem word_Signals_ev {a : Int} (h : U a) : Ev (fun k => word_Signals.f k a) (signals a) := by
  have hh := h
  obtain ⟨h0, h1⟩ := h
  unfold word_Signals.f
  refine Ev.bind (word_Kind_ev hh) ?_
  have hm := mag_nonneg a
  by_cases hk : 9218868437227405312 < a % 9223372036854775808
  · refine Ev.pos ((kind5 hm).mpr hk) ?_
    rw [u64_and1 (by omega) (by omega)]
    have e : signals a = (a / 2251799813685248 % 2 == 0) := by
      unfold signals
      rw [decide_eq_true hk, Bool.true_and, Bool.eq_iff_iff]
      simp
    rw [e]
    exact Ev.now _
  · refine Ev.neg (fun hc => hk ((kind5 hm).mp hc)) ?_
    have e : signals a = false := by unfold signals; rw [decide_eq_false hk, Bool.false_and]
    rw [e]
    exact Ev.now _
/-- A number that isn't zero. -/
theorem word_Parts_ev {a : Int} (h : U a) (h1 : 0 < a % 9223372036854775808) (h2 : a % 9223372036854775808 < 9218868437227405312) :
    Ev (fun k => word_Parts.f k a) (mant (a % 9223372036854775808), expo (a % 9223372036854775808)) := by
  have hh := h
  obtain ⟨h0, h3⟩ := h
  unfold word_Parts.f
  refine Ev.bind (word_Kind_ev hh) ?_
  have hm := mag_nonneg a
  by_cases hs : a % 9223372036854775808 < 4503599627370496
  · refine Ev.pos ((kind2 hm).mpr ⟨h1, hs⟩) (Ev.call (word_Frac_eq hh) ?_)
    have e1 : mant (a % 9223372036854775808) = a % 4503599627370496 := by unfold mant; rw [if_pos hs]; omega
    have e2 : expo (a % 9223372036854775808) = -1074 := by unfold expo; rw [if_pos hs]
    rw [e1, e2]
    exact Ev.now _
  · have k3 := (kind3 hm).mpr ⟨by omega, h2⟩
    refine Ev.neg (by rw [k3]; decide) (Ev.pos k3 (Ev.call (word_Frac_eq hh) (Ev.call (word_Exp_eq hh) ?_)))
    have e1 : bits .or .u64 (a % 4503599627370496) 4503599627370496 = 4503599627370496 + a % 4503599627370496 := u64_or' 52 (by omega) (by decide) (by omega) (by omega) (by simp; omega) (by omega)
    rw [e1, w64 (by omega) (by omega)]
    have e2 : mant (a % 9223372036854775808) = 4503599627370496 + a % 4503599627370496 := by unfold mant; rw [if_neg hs]; omega
    have e3 : expo (a % 9223372036854775808) = a / 4503599627370496 % 2048 - 1075 := by unfold expo; rw [if_neg hs]; omega
    rw [e2, e3]
    exact Ev.now _
theorem word_Parts_none {a : Int} (h : U a) (h1 : a % 9223372036854775808 = 0 ∨ 9218868437227405312 ≤ a % 9223372036854775808) : Ev (fun k => word_Parts.f k a) (0, 0) := by
  have hh := h
  unfold word_Parts.f
  refine Ev.bind (word_Kind_ev hh) ?_
  have hm := mag_nonneg a
  exact Ev.neg (fun hc => by have := (kind2 hm).mp hc; omega) (Ev.neg (fun hc => by have := (kind3 hm).mp hc; omega) (Ev.now _))

def signed (neg : Bool) (m : Int) : Int := if neg then m + 9223372036854775808 else m
theorem word_Make_eq (neg : Bool) {e f : Int} (he : 0 ≤ e) (he' : e < 2048) (hf : U f) : word_Make.f neg e f = some (signed neg (e * 4503599627370496 + f % 4503599627370496)) := by
  obtain ⟨h0, h1⟩ := hf
  unfold word_Make.f signed
  have p52 : (2 : Int) ^ 52 = 4503599627370496 := by decide
  have p63 : (2 : Int) ^ 63 = 9223372036854775808 := by decide
  have e1 : IntKind.u64.wrap e = e := wu64 he (by omega)
  rw [e1, u64_and2047 he (by omega), u64_and52 h0 h1, show e % 2048 = e from by omega, wu64 (by omega) (by omega)]
  have e2 : bits .or .u64 (e * 4503599627370496) (f % 4503599627370496) = e * 4503599627370496 + f % 4503599627370496 :=
    u64_or 52 (by omega) (by rw [p52]; omega) (by omega) (by omega) (by rw [p52]; omega) (by omega)
  rw [e2]
  cases neg
  · simp
  · simp only [if_true]
    rw [u64_or' 63 (by omega) (by rw [p63]; omega) (by omega) (by omega) (by rw [p63]; omega) (by omega), Int.add_comm]

/-- There is such a place. -/
def inB (r c s : Int) (d : List Int) (i k : Int) : Prop := 0 ≤ i ∧ i < r ∧ 0 ≤ k ∧ k < c ∧ 0 ≤ s ∧ i * s + k < (d.length : Int)
instance (r c s : Int) (d : List Int) (i k : Int) : Decidable (inB r c s d i k) := by unfold inB; exact inferInstance
/-- What stands there; of what isn't there: no number. -/
def at4 (r c s : Int) (d : List Int) (i k : Int) : Int := if inB r c s d i k then rd d (i * s + k) else 9221120237041090560
def set4 (r c s : Int) (d : List Int) (i k v : Int) : List Int := if inB r c s d i k then d.set (i * s + k).toNat v else d
/-- Sizes at which no index goes beyond a word. -/
def Sm (r c s : Int) : Prop := r ≤ 4096 ∧ c ≤ 4096 ∧ s ≤ 1099511627776

theorem idx_bound {i k r c s : Int} (h : Sm r c s) (h0 : 0 ≤ i) (h1 : i < r) (h2 : 0 ≤ k) (h3 : k < c) (h4 : 0 ≤ s) :
    wrap64 (i * s) = i * s ∧ wrap64 (wrap64 (i * s) + k) = i * s + k ∧ 0 ≤ i * s + k ∧ 0 ≤ i * s ∧ i * s + k ≤ 4503599627374592 := by
  obtain ⟨ha, hb, hc⟩ := h
  obtain ⟨b0, b1⟩ := mul_bound h0 h4 (show i ≤ 4096 by omega) hc
  have e : wrap64 (i * s) = i * s := w64 (by omega) (by omega)
  rw [e]
  exact ⟨rfl, w64 (by omega) (by omega), by omega, b0, by omega⟩
theorem in_eq {r c s : Int} (h : Sm r c s) (d : List Int) (i k : Int) : mat_Matrix_in.f r c s d i k = some (decide (inB r c s d i k)) := by
  unfold mat_Matrix_in.f
  by_cases h0 : i ≥ 0
  · rw [if_pos h0]
    by_cases h1 : i < r
    · rw [if_pos h1]
      by_cases h2 : k ≥ 0
      · rw [if_pos h2]
        by_cases h3 : k < c
        · rw [if_pos h3]
          by_cases h4 : s ≥ 0
          · rw [if_pos h4, (idx_bound h h0 h1 h2 h3 h4).2.1]
            congr 1
            rw [decide_eq_decide]
            exact ⟨fun h5 => ⟨h0, h1, h2, h3, h4, h5⟩, fun h5 => h5.2.2.2.2.2⟩
          · rw [if_neg h4, decide_eq_false (show ¬ inB r c s d i k from fun hb => h4 hb.2.2.2.2.1)]
        · rw [if_neg h3, decide_eq_false (show ¬ inB r c s d i k from fun hb => h3 hb.2.2.2.1)]
      · rw [if_neg h2, decide_eq_false (show ¬ inB r c s d i k from fun hb => h2 hb.2.2.1)]
    · rw [if_neg h1, decide_eq_false (show ¬ inB r c s d i k from fun hb => h1 hb.2.1)]
  · rw [if_neg h0, decide_eq_false (show ¬ inB r c s d i k from fun hb => h0 hb.1)]
theorem at_eq {r c s : Int} (h : Sm r c s) (d : List Int) (i k : Int) : mat_Matrix_At.f r c s d i k = some (at4 r c s d i k) := by
  unfold mat_Matrix_At.f at4
  rw [in_eq h]
  simp only [Option.bind_some]
  by_cases hb : inB r c s d i k
  · obtain ⟨h0, h1, h2, h3, h4, h5⟩ := id hb
    obtain ⟨e1, e2, e3, e4, e5⟩ := idx_bound h h0 h1 h2 h3 h4
    rw [if_pos (decide_eq_true hb), e2, if_pos e3, if_pos h5, if_pos hb]
  · rw [if_neg (by simpa using hb), if_neg hb]
theorem set_eq {r c s : Int} (h : Sm r c s) (d : List Int) (i k v : Int) : mat_Matrix_Set.f r c s d i k v = some (set4 r c s d i k v) := by
  unfold mat_Matrix_Set.f set4
  rw [in_eq h]
  simp only [Option.bind_some]
  by_cases hb : inB r c s d i k
  · obtain ⟨h0, h1, h2, h3, h4, h5⟩ := id hb
    obtain ⟨e1, e2, e3, e4, e5⟩ := idx_bound h h0 h1 h2 h3 h4
    rw [if_pos (decide_eq_true hb), e2, if_pos e3, if_pos h5, if_pos hb]
  · rw [if_neg (by simpa using hb), if_neg hb]
theorem new_eq {R C : Nat} (hR : R ≤ 4096) (hC : C ≤ 4096) : mat_New.f R C = some ((R : Int), (C : Int), (C : Int), List.replicate (R * C) 0) := by
  have hm : R * C ≤ 4096 * 4096 := Nat.mul_le_mul hR hC
  have e : wrap64 ((R : Int) * (C : Int)) = ((R * C : Nat) : Int) := by rw [← Int.natCast_mul]; exact w64 (by omega) (by omega)
  unfold mat_New.f
  rw [if_neg (by omega), if_neg (by omega), if_neg (by omega), if_neg (by omega), e, if_pos (by omega), if_pos (by omega)]
  rfl
theorem rd_set {l : List Int} {n m : Nat} {v : Int} (h : n < l.length) : rd (l.set n v) (m : Int) = if n = m then v else rd l m := by
  unfold rd
  simp only [Int.toNat_natCast, List.getD_eq_getElem?_getD, List.getElem?_set]
  by_cases e : n = m
  · subst e; simp [h]
  · simp [e]
theorem rd_lt {l : List Int} {n : Nat} (h : n < l.length) : rd l (n : Int) = l[n] := by
  unfold rd; simp [List.getD_eq_getElem?_getD, h]
theorem rd_mem {l : List Int} {i : Int} (h0 : 0 ≤ i) (h : i < (l.length : Int)) : rd l i ∈ l := by
  obtain ⟨n, rfl⟩ := Int.eq_ofNat_of_zero_le h0
  rw [rd_lt (by omega)]; exact List.getElem_mem _

/-- The numbers of a matrix of R rows and C columns, row by row. -/
def gat (R C : Nat) (g : Nat → Nat → Int) : List Int := (List.range (R * C)).map fun x => g (x / C) (x % C)
/-- The same, of which the first n stand already. -/
def part (R C : Nat) (g : Nat → Nat → Int) (n : Nat) : List Int := (List.range (R * C)).map fun x => if x < n then g (x / C) (x % C) else 0
theorem gat_length {R C : Nat} {g : Nat → Nat → Int} : (gat R C g).length = R * C := by simp [gat]
theorem part_length {R C n : Nat} {g : Nat → Nat → Int} : (part R C g n).length = R * C := by simp [part]
theorem part_zero {R C : Nat} {g : Nat → Nat → Int} : part R C g 0 = List.replicate (R * C) 0 := by
  apply List.ext_getElem
  · simp [part]
  · intro i h1 h2; simp [part]
theorem part_full {R C : Nat} {g : Nat → Nat → Int} : part R C g (R * C) = gat R C g := by
  apply List.ext_getElem
  · simp [part, gat]
  · intro i h1 h2
    have : i < R * C := by simpa [part] using h1
    simp [part, gat, this]
theorem place_lt {R C i k : Nat} (hi : i < R) (hk : k < C) : i * C + k < R * C := by
  have : (i + 1) * C ≤ R * C := Nat.mul_le_mul_right C hi
  rw [Nat.add_mul] at this; omega
theorem place_div {C i k : Nat} (hk : k < C) : (i * C + k) / C = i := by
  rw [Nat.mul_comm, Nat.mul_add_div (by omega), Nat.div_eq_of_lt hk, Nat.add_zero]
theorem place_mod {C i k : Nat} (hk : k < C) : (i * C + k) % C = k := by
  rw [Nat.mul_comm, Nat.mul_add_mod, Nat.mod_eq_of_lt hk]
theorem part_set {R C i k : Nat} {g : Nat → Nat → Int} (hi : i < R) (hk : k < C) : (part R C g (i * C + k)).set (i * C + k) (g i k) = part R C g (i * C + k + 1) := by
  apply List.ext_getElem
  · simp [part]
  · intro x h1 h2
    simp only [List.getElem_set, part, List.getElem_map, List.getElem_range]
    by_cases e : i * C + k = x
    · subst e
      rw [if_pos rfl, if_pos (by omega), place_div hk, place_mod hk]
    · rw [if_neg e]
      by_cases e2 : x < i * C + k
      · rw [if_pos e2, if_pos (by omega)]
      · rw [if_neg e2, if_neg (by omega)]
theorem inB_dense {R C : Nat} {d : List Int} (hd : d.length = R * C) {i k : Nat} (hi : i < R) (hk : k < C) : inB R C C d i k := by
  have := place_lt hi hk
  refine ⟨by omega, by omega, by omega, by omega, by omega, ?_⟩
  rw [hd, ← Int.natCast_mul, ← Int.natCast_add]; omega
theorem set_part {R C i k : Nat} {g : Nat → Nat → Int} (hi : i < R) (hk : k < C) : set4 R C C (part R C g (i * C + k)) i k (g i k) = part R C g (i * C + k + 1) := by
  unfold set4
  rw [if_pos (inB_dense part_length hi hk)]
  have e : ((i : Int) * (C : Int) + (k : Int)).toNat = i * C + k := by rw [← Int.natCast_mul, ← Int.natCast_add]; rfl
  rw [e]; exact part_set hi hk
theorem at_dense {R C : Nat} {d : List Int} (hd : d.length = R * C) {i k : Nat} (hi : i < R) (hk : k < C) : at4 R C C d i k = rd d ((i * C + k : Nat) : Int) := by
  unfold at4
  rw [if_pos (inB_dense hd hi hk)]; push_cast; rfl
theorem rd_gat {R C i k : Nat} {g : Nat → Nat → Int} (hi : i < R) (hk : k < C) : rd (gat R C g) ((i * C + k : Nat) : Int) = g i k := by
  have := place_lt hi hk
  rw [rd_lt (by rw [gat_length]; exact this)]
  simp [gat, place_div hk, place_mod hk]
theorem at_gat {R C i k : Nat} {g : Nat → Nat → Int} (hi : i < R) (hk : k < C) : at4 R C C (gat R C g) i k = g i k := by
  rw [at_dense gat_length hi hk, rd_gat hi hk]
theorem gat_congr {R C : Nat} {g g' : Nat → Nat → Int} (h : ∀ i k, i < R → k < C → g i k = g' i k) : gat R C g = gat R C g' := by
  unfold gat
  apply List.map_congr_left
  intro x hx
  have hx := List.mem_range.mp hx
  by_cases hC : C = 0
  · subst hC; simp at hx
  · exact h _ _ (Nat.div_lt_of_lt_mul (by rw [Nat.mul_comm]; exact hx)) (Nat.mod_lt _ (by omega))
theorem row_end {i C : Nat} : i * C + C = (i + 1) * C := by rw [Nat.add_mul]; omega
theorem Sm.nat {R C : Nat} (hR : R ≤ 4096) (hC : C ≤ 4096) : Sm R C C := ⟨by omega, by omega, by omega⟩
theorem at_U {r c s : Int} {d : List Int} (hd : ∀ x ∈ d, U x) (i k : Int) : U (at4 r c s d i k) := by
  unfold at4
  split
  · rename_i h
    obtain ⟨h0, h1, h2, h3, h4, h5⟩ := h
    have := Int.mul_nonneg h0 h4
    exact hd _ (rd_mem (by omega) h5)
  · exact ⟨by decide, by decide⟩
theorem gat_U {R C : Nat} {g : Nat → Nat → Int} (h : ∀ i k, U (g i k)) : ∀ x ∈ gat R C g, U x := by
  intro x hx
  unfold gat at hx
  obtain ⟨y, _, rfl⟩ := List.mem_map.mp hx
  exact h _ _

theorem and7 (x : Int) : Go.bits .and .i64 x 7 = x % 8 := i64_and 3 (by decide) x
/-- A list of so many words. -/
def Words (n : Nat) (d : List Int) : Prop := d.length = n ∧ ∀ x ∈ d, U x
theorem Words.set {n : Nat} {d : List Int} (h : Words n d) (i : Nat) {v : Int} (hv : U v) : Words n (d.set i v) := by
  refine ⟨by rw [List.length_set]; exact h.1, fun x hx => ?_⟩
  rcases List.mem_or_eq_of_mem_set hx with hx | hx
  · exact h.2 x hx
  · rw [hx]; exact hv
theorem Words.set4 {n : Nat} {d : List Int} (h : Words n d) (r c s i k : Int) {v : Int} (hv : U v) : Words n (set4 r c s d i k v) := by
  unfold Gim.set4
  split
  · exact h.set _ hv
  · exact h
theorem Words.zeros (n : Nat) : Words n (List.replicate n 0) := ⟨List.length_replicate, fun x hx => by rw [(List.mem_replicate.mp hx).2]; exact ⟨by decide, by decide⟩⟩
theorem U_zero : U 0 := ⟨by decide, by decide⟩

/-- Two words as one number. -/
def wv (h l : Int) : Int := h * 18446744073709551616 + l
/-- A power of two, as a whole number. -/
def p2 (n : Int) : Int := 2 ^ n.toNat
theorem p2_pos (n : Int) : 0 < p2 n := Int.pow_pos (by decide)
theorem p2_add {a b : Int} (ha : 0 ≤ a) (hb : 0 ≤ b) : p2 (a + b) = p2 a * p2 b := by
  unfold p2
  rw [Int.toNat_add ha hb, Int.pow_add]
theorem p2_0 : p2 0 = 1 := rfl
theorem p2_1 : p2 1 = 2 := rfl
theorem p2_64 : p2 64 = 18446744073709551616 := by decide
theorem p2_128 : p2 128 = 340282366920938463463374607431768211456 := by decide
theorem p2_le {a b : Int} (h : a ≤ b) : p2 a ≤ p2 b := by
  unfold p2
  have : a.toNat ≤ b.toNat := by omega
  exact_mod_cast Nat.pow_le_pow_right (by decide : 0 < 2) this
theorem p2_succ {a : Int} (h : 0 ≤ a) : p2 (a + 1) = 2 * p2 a := by rw [p2_add h (by decide), p2_1, Int.mul_comm]
theorem p2_neg {a : Int} (h : a ≤ 0) : p2 a = 1 := by unfold p2; rw [show a.toNat = 0 from by omega]; rfl
theorem pw_p2 {a : Int} (h : 0 ≤ a) : pw a = (p2 a : Rat) := by
  obtain ⟨n, rfl⟩ := Int.eq_ofNat_of_zero_le h
  rw [pw_nat]
  rfl

theorem wv_range {h l : Int} (hh : U h) (hl : U l) : 0 ≤ wv h l ∧ wv h l < 340282366920938463463374607431768211456 := by
  obtain ⟨a, b⟩ := hh; obtain ⟨c, d⟩ := hl; unfold wv; omega
theorem wv_inj {h l h' l' : Int} (hh : U h) (hl : U l) (hh' : U h') (hl' : U l') (e : wv h l = wv h' l') : h = h' ∧ l = l' := by
  obtain ⟨a, b⟩ := hh; obtain ⟨c, d⟩ := hl; obtain ⟨a', b'⟩ := hh'; obtain ⟨c', d'⟩ := hl'; unfold wv at e; omega

theorem shl_u64 {x n : Int} (hn : 0 ≤ n) (hn' : n ≤ 64) : shl .u64 x n = x * p2 n % 18446744073709551616 := by
  unfold shl p2
  rw [wu64_mod, show min n.toNat (IntKind.bits .u64) = n.toNat from Nat.min_eq_left (by simp [IntKind.bits]; omega)]
theorem shr_u64 {x n : Int} (hn : 0 ≤ n) (hn' : n ≤ 64) : shr .u64 x n = x / p2 n := by
  unfold shr p2
  rw [show min n.toNat (IntKind.bits .u64) = n.toNat from Nat.min_eq_left (by simp [IntKind.bits]; omega)]

theorem wide_Zero_eq {h l : Int} (hh : U h) (hl : U l) : wide_Wide_Zero.f h l = some (decide (wv h l = 0)) := by
  unfold wide_Wide_Zero.f
  rw [u64_or_zero hh.1 hh.2 hl.1 hl.2]
  congr 1
  rw [Bool.eq_iff_iff]
  obtain ⟨a, b⟩ := hh; obtain ⟨c, d⟩ := hl
  unfold wv
  simp
  omega

/-- What lies in two words below and above a cut at n bits. -/
theorem part_lt {x P Q : Int} (hx : U x) (hP : 0 < P) (hQ : 0 < Q) (h : P * Q = 18446744073709551616) : 0 ≤ x / Q ∧ x / Q < P ∧ 0 ≤ x % Q ∧ x % Q < Q ∧ x = x / Q * Q + x % Q := by
  obtain ⟨h0, h1⟩ := hx
  have e := Int.mul_ediv_add_emod x Q
  have r0 := Int.emod_nonneg x (Int.ne_of_gt hQ)
  have r1 := Int.emod_lt_of_pos x hQ
  refine ⟨Int.ediv_nonneg h0 (Int.le_of_lt hQ), ?_, r0, r1, by rw [Int.mul_comm]; exact e.symm⟩
  exact Int.ediv_lt_of_lt_mul hQ (by rw [h]; exact h1)

theorem mul_mod_cut {x P Q : Int} (hx : U x) (hP : 0 < P) (hQ : 0 < Q) (h : P * Q = 18446744073709551616) : x * P % 18446744073709551616 = x % Q * P ∧ 0 ≤ x % Q * P ∧ x % Q * P ≤ 18446744073709551616 - P := by
  obtain ⟨a0, a1, b0, b1, e⟩ := part_lt hx hP hQ h
  have h2 : 0 ≤ x % Q * P := Int.mul_nonneg b0 (Int.le_of_lt hP)
  have h3 : x % Q * P ≤ 18446744073709551616 - P := by
    have : x % Q * P ≤ (Q - 1) * P := Int.mul_le_mul_of_nonneg_right (by omega) (Int.le_of_lt hP)
    have e2 : (Q - 1) * P = 18446744073709551616 - P := by rw [← h]; grind
    omega
  refine ⟨?_, h2, h3⟩
  have e3 : x * P = x / Q * 18446744073709551616 + x % Q * P := by
    rw [← h]; generalize x / Q = A at *; generalize x % Q = B at *; subst e; grind
  rw [e3]
  omega

theorem wide_Left_eq {h l n : Int} (hh : U h) (hl : U l) (hn : n ≤ 4611686018427387904) : ∃ h' l', wide_Wide_Left.f h l n = some (h', l') ∧ U h' ∧ U l' ∧ wv h' l' = wv h l * p2 n % 340282366920938463463374607431768211456 := by
  have hv := wv_range hh hl
  unfold wide_Wide_Left.f
  by_cases h1 : n ≤ 0
  · rw [if_pos h1]
    refine ⟨h, l, rfl, hh, hl, ?_⟩
    rw [p2_neg h1]
    omega
  · rw [if_neg h1]
    by_cases h2 : n ≥ 128
    · rw [if_pos h2]
      refine ⟨0, 0, rfl, ⟨by decide, by decide⟩, ⟨by decide, by decide⟩, ?_⟩
      have e : p2 n = p2 128 * p2 (n - 128) := by rw [← p2_add (by omega) (by omega)]; congr 1; omega
      rw [e, p2_128]
      have : wv h l * (340282366920938463463374607431768211456 * p2 (n - 128)) = 340282366920938463463374607431768211456 * (wv h l * p2 (n - 128)) := by grind
      rw [this, Int.mul_emod_right]
      rfl
    · rw [if_neg h2]
      by_cases h3 : n ≥ 64
      · rw [if_pos h3, w64 (by omega) (by omega), if_pos (by omega), shl_u64 (by omega) (by omega)]
        refine ⟨_, _, rfl, ⟨by omega, by omega⟩, ⟨by decide, by decide⟩, ?_⟩
        have e : p2 n = 18446744073709551616 * p2 (n - 64) := by rw [← p2_64, ← p2_add (by omega) (by omega)]; congr 1; omega
        rw [e]
        have e2 : wv h l * (18446744073709551616 * p2 (n - 64)) = 340282366920938463463374607431768211456 * (h * p2 (n - 64)) + (l * p2 (n - 64)) * 18446744073709551616 := by unfold wv; grind
        rw [e2]
        generalize h * p2 (n - 64) = X
        generalize l * p2 (n - 64) = Y
        unfold wv
        omega
      · rw [if_neg h3, if_pos (by omega), w64 (by omega) (by omega), if_pos (by omega), shl_u64 (by omega) (by omega), shl_u64 (by omega) (by omega), shr_u64 (by omega) (by omega)]
        have hP := p2_pos n
        have hQ := p2_pos (64 - n)
        have hPQ : p2 n * p2 (64 - n) = 18446744073709551616 := by rw [← p2_64, ← p2_add (by omega) (by omega)]; congr 1; omega
        obtain ⟨c0, c1, d0, d1, el⟩ := part_lt hl hP hQ hPQ
        obtain ⟨a0, a1, b0, b1, eh⟩ := part_lt hh hP hQ hPQ
        obtain ⟨mh, mh0, mh1⟩ := mul_mod_cut hh hP hQ hPQ
        obtain ⟨ml, ml0, ml1⟩ := mul_mod_cut hl hP hQ hPQ
        rw [mh, ml]
        have hmod : h % p2 (64 - n) * p2 n % 2 ^ n.toNat = 0 := by
          show h % p2 (64 - n) * p2 n % p2 n = 0
          exact Int.mul_emod_left _ _
        rw [u64_or n.toNat mh0 hmod (by omega) c0 c1 (by omega)]
        refine ⟨_, _, rfl, ⟨by omega, by omega⟩, ⟨by omega, by omega⟩, ?_⟩
        have e : wv h l * p2 n = h / p2 (64 - n) * 340282366920938463463374607431768211456 + wv (h % p2 (64 - n) * p2 n + l / p2 (64 - n)) (l % p2 (64 - n) * p2 n) := by
          unfold wv
          generalize h / p2 (64 - n) = A at *
          generalize h % p2 (64 - n) = B at *
          generalize l / p2 (64 - n) = C at *
          generalize l % p2 (64 - n) = D at *
          generalize p2 n = P at *
          generalize p2 (64 - n) = Q at *
          subst eh el
          have : (340282366920938463463374607431768211456 : Int) = P * Q * (P * Q) := by rw [hPQ]; decide
          rw [this, ← hPQ]
          grind
        rw [e]
        have hr := wv_range (h := h % p2 (64 - n) * p2 n + l / p2 (64 - n)) (l := l % p2 (64 - n) * p2 n) ⟨by omega, by omega⟩ ⟨by omega, by omega⟩
        omega

theorem cut_div {v P : Int} (hP : 0 < P) : v / P * P = v - v % P := by have := Int.mul_ediv_add_emod v P; rw [Int.mul_comm] at this; omega
/-- Times 2^n, less than 2^128. -/
theorem wide_Left_small {h l n : Int} (hh : U h) (hl : U l) (hn : n ≤ 4611686018427387904) (hs : wv h l * p2 n < 340282366920938463463374607431768211456) : ∃ h' l', wide_Wide_Left.f h l n = some (h', l') ∧ U h' ∧ U l' ∧ wv h' l' = wv h l * p2 n := by
  obtain ⟨h', l', e, u1, u2, ev⟩ := wide_Left_eq hh hl hn
  refine ⟨h', l', e, u1, u2, ?_⟩
  rw [ev, Int.emod_eq_of_lt (Int.mul_nonneg (wv_range hh hl).1 (Int.le_of_lt (p2_pos n))) hs]

theorem right_tail {h l n oh ol : Int} (hh : U h) (hl : U l) (ho : U oh) (ho' : U ol) (h1 : ¬ n ≤ 0) (hn : n ≤ 4611686018427387904) (ev : wv oh ol = wv h l / p2 n) :
    Ev (fun k => wide_Wide_Right.j0 k n h l oh ol) (oh, ol, decide (wv h l % p2 n ≠ 0)) := by
  have hv := wv_range hh hl
  have hP := p2_pos n
  have hr0 := Int.emod_nonneg (wv h l) (Int.ne_of_gt hP)
  have hc := cut_div (v := wv h l) hP
  have hle : wv oh ol * p2 n < 340282366920938463463374607431768211456 := by rw [ev, hc]; omega
  obtain ⟨h', l', e, u1, u2, ev2⟩ := wide_Left_small ho ho' hn hle
  refine Ev.succ ?_
  simp only [wide_Wide_Right.j0]
  refine Ev.call e ?_
  dsimp only
  rw [ev, hc] at ev2
  by_cases hz : wv h l % p2 n = 0
  · have ee := wv_inj u1 u2 hh hl (by rw [ev2, hz]; omega)
    obtain ⟨rfl, rfl⟩ := ee
    refine Ev.neg (by simp) ?_
    rw [show decide (wv h' l' % p2 n ≠ 0) = false from by simp [hz]]
    by_cases h2 : n ≥ 128
    · refine Ev.pos h2 (Ev.call (wide_Zero_eq hh hl) ?_)
      have : wv h' l' = 0 := by
        have := Int.emod_eq_of_lt hv.1 (show wv h' l' < p2 n from by have := p2_le h2; rw [p2_128] at this; omega)
        omega
      rw [decide_eq_true this]
      exact Ev.now _
    · exact Ev.neg h2 (Ev.now _)
  · refine Ev.pos ?_ ?_
    · by_cases hc1 : h' = h
      · by_cases hc2 : l' = l
        · subst hc1 hc2; omega
        · simp [hc2]
      · simp [hc1]
    · rw [show decide (wv h l % p2 n ≠ 0) = true from by simp [hz]]
      exact Ev.now _
theorem wide_Right_ev {h l n : Int} (hh : U h) (hl : U l) (hn : n ≤ 4611686018427387904) : ∃ h' l', Ev (fun k => wide_Wide_Right.f k h l n) (h', l', decide (wv h l % p2 n ≠ 0)) ∧ U h' ∧ U l' ∧ wv h' l' = wv h l / p2 n := by
  have hv := wv_range hh hl
  unfold wide_Wide_Right.f
  by_cases h1 : n ≤ 0
  · rw [p2_neg h1]
    refine ⟨h, l, ?_, hh, hl, by omega⟩
    rw [show decide (wv h l % 1 ≠ 0) = false from by simp]
    exact Ev.pos h1 (Ev.now _)
  · by_cases h2 : n ≥ 128
    · have e0 : wv 0 0 = wv h l / p2 n := by
        have : wv h l < p2 n := by have := p2_le h2; rw [p2_128] at this; omega
        rw [Int.ediv_eq_zero_of_lt hv.1 this]; rfl
      have u0 : U 0 := ⟨by decide, by decide⟩
      exact ⟨0, 0, Ev.neg h1 (Ev.pos h2 (right_tail hh hl u0 u0 h1 hn e0)), u0, u0, e0⟩
    · by_cases h3 : n ≥ 64
      · have u0 : U 0 := ⟨by decide, by decide⟩
        have hP := p2_pos (n - 64)
        have hh' := hh
        obtain ⟨x0, x1⟩ := hh
        have u1 : U (h / p2 (n - 64)) := ⟨Int.ediv_nonneg x0 (Int.le_of_lt hP), by have := Int.ediv_le_self (p2 (n - 64)) x0; omega⟩
        have e0 : wv 0 (h / p2 (n - 64)) = wv h l / p2 n := by
          have e : p2 n = 18446744073709551616 * p2 (n - 64) := by rw [← p2_64, ← p2_add (by omega) (by omega)]; congr 1; omega
          have e3 : wv h l / 18446744073709551616 = h := by obtain ⟨y0, y1⟩ := hl; unfold wv; omega
          rw [e, ← Int.ediv_ediv_of_nonneg (by decide), e3]
          unfold wv; omega
        refine ⟨0, h / p2 (n - 64), Ev.neg h1 (Ev.neg h2 (Ev.pos h3 ?_)), u0, u1, e0⟩
        rw [w64 (by omega) (by omega), shr_u64 (by omega) (by omega)]
        exact Ev.pos (by omega) (right_tail hh' hl u0 u1 h1 hn e0)
      · have hP := p2_pos n
        have hQ := p2_pos (64 - n)
        have hQP : p2 (64 - n) * p2 n = 18446744073709551616 := by rw [← p2_64, ← p2_add (by omega) (by omega)]; congr 1; omega
        obtain ⟨c0, c1, d0, d1, el⟩ := part_lt hl hQ hP hQP
        obtain ⟨a0, a1, b0, b1, eh⟩ := part_lt hh hQ hP hQP
        obtain ⟨mh, mh0, mh1⟩ := mul_mod_cut hh hQ hP hQP
        have hP1 : 1 ≤ p2 n := hP
        have hQ1 : p2 (64 - n) ≤ 18446744073709551616 := by rw [← p2_64]; exact p2_le (by omega)
        have u1 : U (h / p2 n) := ⟨a0, by omega⟩
        have u2 : U (h % p2 n * p2 (64 - n) + l / p2 n) := ⟨by omega, by omega⟩
        have e0 : wv (h / p2 n) (h % p2 n * p2 (64 - n) + l / p2 n) = wv h l / p2 n := by
          have e1 : wv h l = wv (h / p2 n) (h % p2 n * p2 (64 - n) + l / p2 n) * p2 n + l % p2 n := by
            unfold wv
            generalize h / p2 n = A at *
            generalize h % p2 n = B at *
            generalize l / p2 n = C at *
            generalize l % p2 n = D at *
            generalize p2 n = P at *
            generalize p2 (64 - n) = Q at *
            subst eh el
            rw [← hQP]
            grind
          rw [e1, Int.add_comm _ (l % p2 n), Int.add_mul_ediv_right _ _ (Int.ne_of_gt hP), Int.ediv_eq_zero_of_lt d0 d1, Int.zero_add]
        refine ⟨_, _, Ev.neg h1 (Ev.neg h2 (Ev.neg h3 (Ev.pos (by omega) ?_))), u1, u2, e0⟩
        rw [w64 (by omega) (by omega), shr_u64 (by omega) (by omega), shl_u64 (by omega) (by omega), shr_u64 (by omega) (by omega), mh]
        have hmod : h % p2 n * p2 (64 - n) % 2 ^ (64 - n).toNat = 0 := by
          show h % p2 n * p2 (64 - n) % p2 (64 - n) = 0
          exact Int.mul_emod_left _ _
        rw [u64_or (64 - n).toNat mh0 hmod (by omega) c0 c1 (by omega)]
        exact Ev.pos (by omega) (right_tail hh hl u1 u2 h1 hn e0)

theorem wide_Add_eq {h l h' l' : Int} (hh : U h) (hl : U l) (hh' : U h') (hl' : U l') : ∃ a b, wide_Wide_Add.f h l h' l' = some (a, b, decide (340282366920938463463374607431768211456 ≤ wv h l + wv h' l')) ∧ U a ∧ U b ∧ wv a b = (wv h l + wv h' l') % 340282366920938463463374607431768211456 := by
  obtain ⟨x0, x1⟩ := hh; obtain ⟨x2, x3⟩ := hl; obtain ⟨x4, x5⟩ := hh'; obtain ⟨x6, x7⟩ := hl'
  unfold wide_Wide_Add.f bits_Add64.f
  rw [if_pos x2, if_pos x6, if_pos (by decide), if_pos (by decide)]
  simp only [Option.bind_some]
  rw [if_pos x0, if_pos x4, if_pos (by omega), if_pos (by omega)]
  simp only [Option.bind_some]
  refine ⟨_, _, congrArg some (Prod.ext rfl (Prod.ext rfl ?_)), ⟨by omega, by omega⟩, ⟨by omega, by omega⟩, ?_⟩
  · rw [Bool.eq_iff_iff]
    unfold wv
    simp
    omega
  · unfold wv
    omega

/-- How many bits a whole number has. -/
def blen (x : Int) : Int := if x ≤ 0 then 0 else (Nat.log2 x.toNat : Int) + 1
theorem blen_pos {x : Int} (h : 0 < x) : 1 ≤ blen x ∧ p2 (blen x - 1) ≤ x ∧ x < p2 (blen x) := by
  unfold blen p2
  rw [if_neg (by omega)]
  obtain ⟨n, rfl⟩ := Int.eq_ofNat_of_zero_le (Int.le_of_lt h)
  have hn : n ≠ 0 := by omega
  have h1 := Nat.log2_self_le hn
  have h2 := Nat.lt_log2_self (n := n)
  simp only [Int.toNat_natCast]
  refine ⟨by omega, ?_, ?_⟩
  · rw [show ((n.log2 : Int) + 1 - 1).toNat = n.log2 from by omega]; exact_mod_cast h1
  · rw [show ((n.log2 : Int) + 1).toNat = n.log2 + 1 from by omega]; exact_mod_cast h2
theorem blen_nonneg (x : Int) : 0 ≤ blen x := by unfold blen; split <;> omega
theorem blen_unique {x L : Int} (hL : 1 ≤ L) (h1 : p2 (L - 1) ≤ x) (h2 : x < p2 L) : blen x = L := by
  have hx : 0 < x := by have := p2_pos (L - 1); omega
  obtain ⟨b0, b1, b2⟩ := blen_pos hx
  have h3 : ¬ blen x < L := fun hc => by have := p2_le (show blen x ≤ L - 1 from by omega); omega
  have h4 : ¬ L < blen x := fun hc => by have := p2_le (show L ≤ blen x - 1 from by omega); omega
  omega
theorem blen_shift {x s : Int} (hs : 0 ≤ s) (hx : p2 s ≤ x) : blen x = s + blen (x / p2 s) := by
  have hP := p2_pos s
  have hq : 0 < x / p2 s := by have := Int.le_ediv_of_mul_le hP (show 1 * p2 s ≤ x from by omega); omega
  obtain ⟨b0, b1, b2⟩ := blen_pos hq
  have e := Int.mul_ediv_add_emod x (p2 s)
  have r0 := Int.emod_nonneg x (Int.ne_of_gt hP)
  have r1 := Int.emod_lt_of_pos x hP
  refine blen_unique (by omega) ?_ ?_
  · have : p2 (s + blen (x / p2 s) - 1) = p2 s * p2 (blen (x / p2 s) - 1) := by rw [← p2_add hs (by omega)]; congr 1; omega
    rw [this]
    have := Int.mul_le_mul_of_nonneg_left b1 (Int.le_of_lt hP)
    omega
  · rw [p2_add hs (by omega)]
    have : p2 s * (x / p2 s + 1) ≤ p2 s * p2 (blen (x / p2 s)) := Int.mul_le_mul_of_nonneg_left b2 (Int.le_of_lt hP)
    have e2 : p2 s * (x / p2 s + 1) = p2 s * (x / p2 s) + p2 s := by grind
    omega
theorem blen_le {x L : Int} (hL : 0 ≤ L) (h : x < p2 L) : blen x ≤ L := by
  by_cases hx : 0 < x
  · obtain ⟨b0, b1, b2⟩ := blen_pos hx
    exact Int.not_lt.mp (fun hc => by have := p2_le (show L ≤ blen x - 1 from by omega); omega)
  · unfold blen; rw [if_pos (by omega)]; exact hL
theorem blen_tab : ∀ i : Fin 256, bt (⟨#[0, 1, 2, 2, 3, 3, 3, 3, 4, 4, 4, 4, 4, 4, 4, 4, 5, 5, 5, 5, 5, 5, 5, 5, 5, 5, 5, 5, 5, 5, 5, 5, 6, 6, 6, 6, 6, 6, 6, 6, 6, 6, 6, 6, 6, 6, 6, 6, 6, 6, 6, 6, 6, 6, 6, 6, 6, 6, 6, 6, 6, 6, 6, 6, 7, 7, 7, 7, 7, 7, 7, 7, 7, 7, 7, 7, 7, 7, 7, 7, 7, 7, 7, 7, 7, 7, 7, 7, 7, 7, 7, 7, 7, 7, 7, 7, 7, 7, 7, 7, 7, 7, 7, 7, 7, 7, 7, 7, 7, 7, 7, 7, 7, 7, 7, 7, 7, 7, 7, 7, 7, 7, 7, 7, 7, 7, 7, 7, 8, 8, 8, 8, 8, 8, 8, 8, 8, 8, 8, 8, 8, 8, 8, 8, 8, 8, 8, 8, 8, 8, 8, 8, 8, 8, 8, 8, 8, 8, 8, 8, 8, 8, 8, 8, 8, 8, 8, 8, 8, 8, 8, 8, 8, 8, 8, 8, 8, 8, 8, 8, 8, 8, 8, 8, 8, 8, 8, 8, 8, 8, 8, 8, 8, 8, 8, 8, 8, 8, 8, 8, 8, 8, 8, 8, 8, 8, 8, 8, 8, 8, 8, 8, 8, 8, 8, 8, 8, 8, 8, 8, 8, 8, 8, 8, 8, 8, 8, 8, 8, 8, 8, 8, 8, 8, 8, 8, 8, 8, 8, 8, 8, 8, 8, 8, 8, 8, 8, 8, 8, 8, 8, 8, 8, 8, 8, 8]⟩ : ByteArray) (i.val : Int) = blen (i.val : Int) := by decide +kernel
theorem blen_tab_eq {i : Int} (h0 : 0 ≤ i) (h1 : i < 256) : bt (⟨#[0, 1, 2, 2, 3, 3, 3, 3, 4, 4, 4, 4, 4, 4, 4, 4, 5, 5, 5, 5, 5, 5, 5, 5, 5, 5, 5, 5, 5, 5, 5, 5, 6, 6, 6, 6, 6, 6, 6, 6, 6, 6, 6, 6, 6, 6, 6, 6, 6, 6, 6, 6, 6, 6, 6, 6, 6, 6, 6, 6, 6, 6, 6, 6, 7, 7, 7, 7, 7, 7, 7, 7, 7, 7, 7, 7, 7, 7, 7, 7, 7, 7, 7, 7, 7, 7, 7, 7, 7, 7, 7, 7, 7, 7, 7, 7, 7, 7, 7, 7, 7, 7, 7, 7, 7, 7, 7, 7, 7, 7, 7, 7, 7, 7, 7, 7, 7, 7, 7, 7, 7, 7, 7, 7, 7, 7, 7, 7, 8, 8, 8, 8, 8, 8, 8, 8, 8, 8, 8, 8, 8, 8, 8, 8, 8, 8, 8, 8, 8, 8, 8, 8, 8, 8, 8, 8, 8, 8, 8, 8, 8, 8, 8, 8, 8, 8, 8, 8, 8, 8, 8, 8, 8, 8, 8, 8, 8, 8, 8, 8, 8, 8, 8, 8, 8, 8, 8, 8, 8, 8, 8, 8, 8, 8, 8, 8, 8, 8, 8, 8, 8, 8, 8, 8, 8, 8, 8, 8, 8, 8, 8, 8, 8, 8, 8, 8, 8, 8, 8, 8, 8, 8, 8, 8, 8, 8, 8, 8, 8, 8, 8, 8, 8, 8, 8, 8, 8, 8, 8, 8, 8, 8, 8, 8, 8, 8, 8, 8, 8, 8, 8, 8, 8, 8, 8, 8]⟩ : ByteArray) i = blen i := by
  obtain ⟨n, rfl⟩ := Int.eq_ofNat_of_zero_le h0
  exact blen_tab ⟨n, by omega⟩
set_option maxRecDepth 100000 in
theorem bits_Len64_j0 {x s : Int} (h0 : 0 ≤ x) (h1 : x < 4294967296) (hs : 0 ≤ s) (hs' : s ≤ 64) : Ev (fun k => bits_Len64.j0 k x s) (s + blen x) := by
  refine Ev.succ ?_
  simp only [bits_Len64.j0]
  have q16 : p2 16 = 65536 := by decide
  have q8 : p2 8 = 256 := by decide
  by_cases c1 : x ≥ 65536
  · refine Ev.pos c1 ?_
    have e1 : blen x = 16 + blen (x / 65536) := by rw [← q16]; exact blen_shift (by decide) (by rw [q16]; exact c1)
    by_cases c2 : x / 65536 ≥ 256
    · refine Ev.pos c2 (Ev.pos (by omega) (Ev.pos (by omega) ?_))
      have e2 : blen (x / 65536) = 8 + blen (x / 65536 / 256) := by rw [← q8]; exact blen_shift (by decide) (by rw [q8]; exact c2)
      rw [blen_tab_eq (by omega) (by omega), show x / 65536 / 256 % 256 = x / 65536 / 256 from by omega]
      have b1 := blen_nonneg (x / 65536 / 256)
      have b2 : blen (x / 65536 / 256) ≤ 8 := blen_le (by decide) (by rw [q8]; omega)
      rw [w64 (x := blen _) (by omega) (by omega), w64 (x := s + 16) (by omega) (by omega), w64 (x := s + 16 + 8) (by omega) (by omega), w64 (by omega) (by omega), e1, e2]
      rw [show s + 16 + 8 + blen (x / 65536 / 256) = s + (16 + (8 + blen (x / 65536 / 256))) from by omega]
      exact Ev.now _
    · refine Ev.neg c2 (Ev.pos (by omega) (Ev.pos (by omega) ?_))
      rw [blen_tab_eq (by omega) (by omega), show x / 65536 % 256 = x / 65536 from by omega]
      have b1 := blen_nonneg (x / 65536)
      have b2 : blen (x / 65536) ≤ 8 := blen_le (by decide) (by rw [q8]; omega)
      rw [w64 (x := blen _) (by omega) (by omega), w64 (x := s + 16) (by omega) (by omega), w64 (by omega) (by omega), e1]
      rw [show s + 16 + blen (x / 65536) = s + (16 + blen (x / 65536)) from by omega]
      exact Ev.now _
  · refine Ev.neg c1 ?_
    by_cases c2 : x ≥ 256
    · refine Ev.pos c2 (Ev.pos (by omega) (Ev.pos (by omega) ?_))
      have e2 : blen x = 8 + blen (x / 256) := by rw [← q8]; exact blen_shift (by decide) (by rw [q8]; exact c2)
      rw [blen_tab_eq (by omega) (by omega), show x / 256 % 256 = x / 256 from by omega]
      have b1 := blen_nonneg (x / 256)
      have b2 : blen (x / 256) ≤ 8 := blen_le (by decide) (by rw [q8]; omega)
      rw [w64 (x := blen _) (by omega) (by omega), w64 (x := s + 8) (by omega) (by omega), w64 (by omega) (by omega), e2]
      rw [show s + 8 + blen (x / 256) = s + (8 + blen (x / 256)) from by omega]
      exact Ev.now _
    · refine Ev.neg c2 (Ev.pos (by omega) (Ev.pos (by omega) ?_))
      rw [blen_tab_eq (by omega) (by omega), show x % 256 = x from by omega]
      have b1 := blen_nonneg x
      have b2 : blen x ≤ 8 := blen_le (by decide) (by rw [q8]; omega)
      rw [w64 (x := blen _) (by omega) (by omega), w64 (by omega) (by omega)]
      exact Ev.now _
theorem bits_Len64_ev {x : Int} (h : U x) : Ev (fun k => bits_Len64.f k x) (blen x) := by
  obtain ⟨h0, h1⟩ := h
  unfold bits_Len64.f
  have q32 : p2 32 = 4294967296 := by decide
  by_cases c1 : x ≥ 4294967296
  · have e1 : blen x = 32 + blen (x / 4294967296) := by rw [← q32]; exact blen_shift (by decide) (by rw [q32]; exact c1)
    rw [e1]
    exact Ev.pos c1 (bits_Len64_j0 (by omega) (by omega) (by decide) (by decide))
  · have := bits_Len64_j0 (x := x) (s := 0) h0 (by omega) (by decide) (by decide)
    rw [Int.zero_add] at this
    exact Ev.neg c1 this
theorem wide_Len_ev {h l : Int} (hh : U h) (hl : U l) : Ev (fun k => wide_Wide_Len.f k h l) (blen (wv h l)) := by
  unfold wide_Wide_Len.f
  have hx := hh
  obtain ⟨x0, x1⟩ := hh
  have hy := hl
  obtain ⟨y0, y1⟩ := hl
  by_cases c : h = 0
  · subst c
    rw [show wv 0 l = l from by unfold wv; omega]
    exact Ev.pos rfl (Ev.bind (bits_Len64_ev hy) (Ev.now _))
  · refine Ev.neg c (Ev.bind (bits_Len64_ev hx) ?_)
    have e1 : blen (wv h l) = 64 + blen (wv h l / 18446744073709551616) := by
      rw [← p2_64]; exact blen_shift (by decide) (by rw [p2_64]; unfold wv; omega)
    have e2 : wv h l / 18446744073709551616 = h := by unfold wv; omega
    have b1 := blen_nonneg h
    have b2 : blen h ≤ 64 := blen_le (by decide) (by rw [p2_64]; omega)
    rw [e1, e2, w64 (by omega) (by omega)]
    exact Ev.now _
theorem blen_wv_le {h l : Int} (hh : U h) (hl : U l) : blen (wv h l) ≤ 128 := blen_le (by decide) (by rw [p2_128]; exact (wv_range hh hl).2)

theorem u8_or_1 : bits .or .u8 0 1 = 1 := by decide
theorem u8_or_2 : bits .or .u8 1 2 = 3 := by decide
/-- The flags' first half. -/
def fl (lost tiny : Bool) : Int := if lost then (if tiny then 3 else 1) else 0

theorem round_j6 (neg tiny lost : Bool) {q n : Int} (hq : -1074 ≤ q) (hq' : q ≤ 1000000) (hn : 0 ≤ n) (h1 : n < 9007199254740992) (h2 : q = -1074 ∨ 4503599627370496 ≤ n)
    (ht : tiny = true → enc q n < INF) :
    Ev (fun k => round_Round.j6 k neg q n (fl lost tiny)) (signed neg (if enc q n < INF then enc q n else INF), if enc q n < INF then fl lost tiny else 5) := by
  refine Ev.succ ?_
  simp only [round_Round.j6]
  have hU : U n := ⟨hn, by omega⟩
  have U0 : U 0 := ⟨by decide, by decide⟩
  by_cases ha : n < 4503599627370496
  · obtain rfl : q = -1074 := by omega
    have e : enc (-1074) n = n := by unfold enc; omega
    have hI : n < INF := by unfold INF; omega
    rw [e]
    simp only [if_pos hI]
    refine Ev.pos ha (Ev.call (word_Make_eq neg (by decide) (by decide) hU) ?_)
    rw [show (0 : Int) * 4503599627370496 + n % 4503599627370496 = n from by omega]
    exact Ev.now _
  · refine Ev.neg ha ?_
    rw [w64 (x := q + 1075) (by omega) (by omega)]
    by_cases hb : q + 1075 ≥ 2047
    · have e : ¬ enc q n < INF := by unfold enc INF; omega
      simp only [if_neg e]
      refine Ev.pos hb (Ev.call (word_Make_eq neg (by decide) (by decide) U0) ?_)
      have ht' : tiny = false := by
        cases tiny
        · rfl
        · exact absurd (ht rfl) e
      subst ht'
      have e2 : bits .or .u8 (bits .or .u8 (fl lost false) 4) 1 = 5 := by cases lost <;> decide
      rw [e2, show (2047 : Int) * 4503599627370496 + 0 % 4503599627370496 = INF from by decide]
      exact Ev.now _
    · have e : enc q n < INF := by unfold enc INF; omega
      simp only [if_pos e]
      refine Ev.neg hb (Ev.call (word_Make_eq neg (by omega) (by omega) hU) ?_)
      rw [show (q + 1075) * 4503599627370496 + n % 4503599627370496 = enc q n from by unfold enc; omega]
      exact Ev.now _

theorem round_j4 (neg tiny lost : Bool) {E d q n hi : Int} (hE : -1000000 ≤ E) (hE' : E ≤ 1000000) (hd : -1000000 ≤ d) (hd' : d ≤ 1000000) (hqe : E + d = q) (hq : -1074 ≤ q) (hq' : q ≤ 200000) (hn : 0 ≤ n) (h1 : n ≤ 9007199254740992) (h2 : q = -1074 ∨ 4503599627370496 ≤ n)
    (ht : tiny = true → enc q n < INF) :
    Ev (fun k => round_Round.j4 k neg E d tiny lost hi n) (signed neg (if enc q n < INF then enc q n else INF), if enc q n < INF then fl lost tiny else 5) := by
  have j5 : ∀ q' n', -1074 ≤ q' → q' ≤ 1000000 → 0 ≤ n' → n' < 9007199254740992 → (q' = -1074 ∨ 4503599627370496 ≤ n') → enc q' n' = enc q n →
      Ev (fun k => round_Round.j5 k neg q' tiny lost n') (signed neg (if enc q n < INF then enc q n else INF), if enc q n < INF then fl lost tiny else 5) := by
    intro q' n' a b c d' e f
    refine Ev.succ ?_
    simp only [round_Round.j5]
    have h6 := round_j6 neg tiny lost a b c d' e (by rw [f]; exact ht)
    rw [f] at h6
    cases lost
    · refine Ev.neg (by decide) ?_
      exact h6
    · refine Ev.pos rfl ?_
      cases tiny
      · refine Ev.neg (by decide) ?_
        rw [u8_or_1]; exact h6
      · refine Ev.pos rfl ?_
        rw [u8_or_1, u8_or_2]; exact h6
  refine Ev.succ ?_
  simp only [round_Round.j4]
  rw [w64 (x := E + d) (by omega) (by omega), hqe]
  by_cases ha : n = 9007199254740992
  · subst ha
    refine Ev.pos rfl ?_
    rw [w64 (x := q + 1) (by omega) (by omega)]
    exact j5 (q + 1) _ (by omega) (by omega) (by decide) (by decide) (.inr (by decide)) (by unfold enc; omega)
  · exact Ev.neg ha (j5 q n hq (by omega) hn (by omega) h2 rfl)

/-- One half of the last place, and what lies beneath. -/
theorem half_rest {W d : Int} (hW : 0 ≤ W) (hd : 0 < d) : (W / p2 (d - 1)) % 2 = (if p2 d ≤ 2 * (W % p2 d) then 1 else 0) ∧ W % p2 (d - 1) = (if p2 d ≤ 2 * (W % p2 d) then W % p2 d - p2 (d - 1) else W % p2 d) := by
  have hP := p2_pos (d - 1)
  have e : p2 d = 2 * p2 (d - 1) := by rw [← p2_succ (by omega)]; congr 1; omega
  have m1 := Int.mul_ediv_add_emod W (p2 (d - 1))
  have r0 := Int.emod_nonneg W (Int.ne_of_gt hP)
  have r1 := Int.emod_lt_of_pos W hP
  have hD := p2_pos d
  have m2 := Int.mul_ediv_add_emod W (p2 d)
  have s0 := Int.emod_nonneg W (Int.ne_of_gt hD)
  have s1 := Int.emod_lt_of_pos W hD
  have key : W % p2 d = (W / p2 (d - 1) % 2) * p2 (d - 1) + W % p2 (d - 1) := by
    have h2 : W / p2 (d - 1) = 2 * (W / p2 (d - 1) / 2) + W / p2 (d - 1) % 2 := by omega
    have h3 : W = (W / p2 (d - 1) % 2 * p2 (d - 1) + W % p2 (d - 1)) + p2 d * (W / p2 (d - 1) / 2) := by
      rw [e]
      generalize W / p2 (d - 1) / 2 = X at *
      generalize W / p2 (d - 1) % 2 = Y at *
      rw [h2] at m1
      grind
    have hb : 0 ≤ W / p2 (d - 1) % 2 ∧ W / p2 (d - 1) % 2 ≤ 1 := by omega
    have hb2 : W / p2 (d - 1) % 2 * p2 (d - 1) ≤ 1 * p2 (d - 1) := Int.mul_le_mul_of_nonneg_right hb.2 (Int.le_of_lt hP)
    have hb3 : 0 ≤ W / p2 (d - 1) % 2 * p2 (d - 1) := Int.mul_nonneg hb.1 (Int.le_of_lt hP)
    have := Int.add_mul_emod_self_left (W / p2 (d - 1) % 2 * p2 (d - 1) + W % p2 (d - 1)) (p2 d) (W / p2 (d - 1) / 2)
    rw [← h3] at this
    rw [this]
    exact Int.emod_eq_of_lt (by omega) (by omega)
  rcases (show W / p2 (d - 1) % 2 = 0 ∨ W / p2 (d - 1) % 2 = 1 from by omega) with hb | hb
  · rw [hb] at key
    rw [hb, if_neg (by omega), if_neg (by omega)]
    omega
  · rw [hb] at key
    rw [hb, if_pos (by omega), if_pos (by omega)]
    omega

theorem round_split_ev {h l d : Int} (hh : U h) (hl : U l) (hW : 0 < wv h l) (hd : 0 < d) (hd' : d ≤ 1000000) :
    Ev (fun k => round_split.f k h l d (decide (wv h l % p2 d ≠ 0))) (decide (p2 d ≤ 2 * (wv h l % p2 d)), if p2 d ≤ 2 * (wv h l % p2 d) then decide (wv h l % p2 d ≠ p2 (d - 1)) else decide (wv h l % p2 d ≠ 0)) := by
  have hv := wv_range hh hl
  unfold round_split.f
  by_cases h1 : d > 128
  · have hm : wv h l % p2 d = wv h l := Int.emod_eq_of_lt hv.1 (by have := p2_le (show 128 ≤ d from by omega); rw [p2_128] at this; omega)
    have hbig : ¬ p2 d ≤ 2 * (wv h l % p2 d) := by
      rw [hm]
      have := p2_le (show 129 ≤ d from by omega)
      have e : p2 129 = 680564733841876926926749214863536422912 := by decide
      rw [e] at this
      omega
    rw [if_neg hbig, decide_eq_false hbig]
    exact Ev.pos h1 (Ev.now _)
  · refine Ev.neg h1 ?_
    obtain ⟨a, b, ev, u1, u2, e⟩ := wide_Right_ev (n := d - 1) hh hl (by omega)
    rw [w64 (x := d - 1) (by omega) (by omega)]
    refine Ev.bind ev ?_
    dsimp only
    obtain ⟨k1, k2⟩ := half_rest hv.1 hd
    rw [u64_and1 u2.1 u2.2]
    have e1 : b % 2 = wv h l / p2 (d - 1) % 2 := by rw [← e]; unfold wv; omega
    rw [e1, k1, k2]
    have hP := p2_pos (d - 1)
    by_cases hc : p2 d ≤ 2 * (wv h l % p2 d)
    · simp only [if_pos hc, decide_eq_true hc]
      have e2 : decide (wv h l % p2 d - p2 (d - 1) ≠ 0) = decide (wv h l % p2 d ≠ p2 (d - 1)) := by
        apply decide_eq_decide.mpr
        constructor <;> intro h <;> omega
      rw [e2]
      exact Ev.now _
    · simp only [if_neg hc, decide_eq_false hc]
      exact Ev.now _

/-- What is rounded, and how. -/
def rup (W d : Int) (more : Bool) : Int := if p2 d ≤ 2 * (W % p2 d) ∧ (W % p2 d ≠ p2 (d - 1) ∨ more = true ∨ W / p2 d % 2 = 1) then W / p2 d + 1 else W / p2 d

theorem rup_rnd {W E d : Int} {more : Bool} {x : Rat} (hW : 0 < W) (hd : 0 < d) (hq : -1074 ≤ E + d) (hL : blen W - 53 ≤ d) (hq2 : E + d = -1074 ∨ d = blen W - 53)
    (hx0 : more = false → x = (W : Rat) * pw E) (hx1 : more = true → (W : Rat) * pw E < x ∧ x < (W + 1 : Int) * pw E) :
    Rnd x (E + d) (rup W d more) ∧ (x = (rup W d more : Rat) * pw (E + d) ↔ (W % p2 d = 0 ∧ more = false)) := by
  have hD := p2_pos d
  have hP := p2_pos (d - 1)
  have e : p2 d = 2 * p2 (d - 1) := by rw [← p2_succ (by omega)]; congr 1; omega
  have hu := pw_pos E
  have hqD : pw (E + d) = (p2 d : Rat) * pw E := by rw [pw_add, pw_p2 (a := d) (by omega), Rat.mul_comm]
  have m2 := Int.mul_ediv_add_emod W (p2 d)
  have s0 := Int.emod_nonneg W (Int.ne_of_gt hD)
  have s1 := Int.emod_lt_of_pos W hD
  obtain ⟨bl1, bl2, bl3⟩ := blen_pos hW
  have hxlo : (W : Rat) * pw E ≤ x := by
    cases more
    · rw [hx0 rfl]; exact Rat.le_refl
    · exact Rat.le_of_lt (hx1 rfl).1
  have hxhi : x < (W + 1 : Int) * pw E := by
    cases more
    · rw [hx0 rfl]; exact mul_pw_lt.mpr (by omega)
    · exact (hx1 rfl).2
  have hpos : 0 < x := by
    have : (0 : Int) * pw E < (W : Rat) * pw E := mul_pw_lt.mpr hW
    grind
  -- a whole number times pw q, as one times pw E
  have hn : ∀ n : Int, (n : Rat) * pw (E + d) = (n * p2 d : Int) * pw E := by
    intro n; rw [hqD]; push_cast; grind
  have hlo : E + d = -1074 ∨ (4503599627370496 : Int) * pw (E + d) ≤ x := by
    rcases hq2 with h | h
    · exact .inl h
    · refine .inr (Rat.le_trans ?_ hxlo)
      rw [hn]
      apply mul_pw_le.mpr
      have e52 : (4503599627370496 : Int) = p2 52 := by decide
      rw [e52, ← p2_add (by decide) (by omega), show 52 + d = blen W - 1 from by omega]
      exact bl2
  have hhi : x < (9007199254740992 : Int) * pw (E + d) := by
    refine Std.lt_of_lt_of_le hxhi ?_
    rw [hn]
    apply mul_pw_le.mpr
    have e53 : (9007199254740992 : Int) = p2 53 := by decide
    rw [e53, ← p2_add (by decide) (by omega)]
    have := p2_le (show blen W ≤ 53 + d from by omega)
    omega
  generalize hA : W / p2 d = A at *
  generalize hR : W % p2 d = R at *
  have two : ∀ {y z : Int}, y ≤ z → ((y : Int) : Rat) * pw E ≤ z * pw E := fun h => mul_pw_le.mpr h
  have x2 : (2 * W : Int) * pw E ≤ 2 * x := by push_cast; grind
  have x2' : 2 * x < (2 * W + 2 : Int) * pw E := by push_cast at hxhi ⊢; grind
  have ex0 : more = false → 2 * x = (2 * W : Int) * pw E := fun h => by rw [hx0 h]; push_cast; grind
  have ex1 : more = true → (2 * W : Int) * pw E < 2 * x := fun h => by have := (hx1 h).1; push_cast; grind
  by_cases hup : p2 d ≤ 2 * R ∧ (R ≠ p2 (d - 1) ∨ more = true ∨ A % 2 = 1)
  · have er : rup W d more = A + 1 := by unfold rup; rw [hA, hR, if_pos hup]
    rw [er]
    obtain ⟨u1, u2⟩ := hup
    have lt1 : 2 * x < (2 * (A + 1) + 1 : Int) * pw (E + d) := by
      rw [hn]
      refine Std.lt_of_lt_of_le x2' (two ?_)
      have : (2 * (A + 1) + 1) * p2 d = 2 * (p2 d * A) + 3 * p2 d := by grind
      omega
    have ge1 : (2 * (A + 1) - 1 : Int) * pw (E + d) ≤ 2 * x := by
      rw [hn]
      refine Rat.le_trans (two ?_) x2
      have : (2 * (A + 1) - 1) * p2 d = 2 * (p2 d * A) + p2 d := by grind
      omega
    refine ⟨⟨hq, hlo, hhi, hpos, Rat.le_of_lt lt1, ge1, fun h => absurd h (by grind), fun h => ?_⟩, ?_⟩
    · -- a tie: nothing more, and A is odd
      rw [hn] at h
      have t1 : (2 * (A + 1) - 1) * p2 d = 2 * (p2 d * A) + p2 d := by grind
      rw [t1] at h
      cases hm : more
      · rw [ex0 hm] at h
        have := mul_pw_inj h
        rcases u2 with u2 | u2 | u2
        · omega
        · rw [hm] at u2; cases u2
        · omega
      · have h1 := ex1 hm
        rw [h] at h1
        have := mul_pw_lt.mp h1
        omega
    · constructor
      · intro h
        exfalso
        have h' : 2 * x = (2 * ((A + 1) * p2 d) : Int) * pw E := by rw [h, hn]; push_cast; grind
        have t1 : (A + 1) * p2 d = p2 d * A + p2 d := by grind
        rw [t1] at h'
        cases hm : more
        · rw [ex0 hm] at h'
          have := mul_pw_inj h'
          omega
        · have h1 := ex1 hm
          have h2 := x2'
          rw [h'] at h1 h2
          have := mul_pw_lt.mp h1
          have := mul_pw_lt.mp h2
          omega
      · intro ⟨h1, _⟩; omega
  · have er : rup W d more = A := by unfold rup; rw [hA, hR, if_neg hup]
    rw [er]
    have hup' : ¬ p2 d ≤ 2 * R ∨ (R = p2 (d - 1) ∧ more = false ∧ A % 2 = 0) := by
      by_cases c : p2 d ≤ 2 * R
      · refine .inr ?_
        have c2 : ¬ (R ≠ p2 (d - 1) ∨ more = true ∨ A % 2 = 1) := fun h => hup ⟨c, h⟩
        refine ⟨?_, ?_, ?_⟩
        · exact Decidable.byContradiction fun h => c2 (.inl h)
        · cases more
          · rfl
          · exact absurd (.inr (.inl rfl)) c2
        · have : ¬ A % 2 = 1 := fun h => c2 (.inr (.inr h))
          omega
      · exact .inl c
    have t1 : (2 * A + 1) * p2 d = 2 * (p2 d * A) + p2 d := by grind
    have t2 : (2 * A - 1) * p2 d = 2 * (p2 d * A) - p2 d := by grind
    have le1 : 2 * x ≤ (2 * A + 1 : Int) * pw (E + d) := by
      rw [hn, t1]
      rcases hup' with h | ⟨h, hm, h2⟩
      · exact Rat.le_trans (Rat.le_of_lt x2') (two (by omega))
      · rw [ex0 hm]; exact two (by omega)
    have ge1 : (2 * A - 1 : Int) * pw (E + d) < 2 * x := by
      rw [hn, t2]
      exact Std.lt_of_lt_of_le (mul_pw_lt.mpr (by omega)) x2
    refine ⟨⟨hq, hlo, hhi, hpos, le1, Rat.le_of_lt ge1, fun h => ?_, fun h => absurd h (by grind)⟩, ?_⟩
    · rw [hn, t1] at h
      rcases hup' with h1 | ⟨h1, hm, h2⟩
      · exfalso
        have h2 := x2'
        rw [h] at h2
        have := mul_pw_lt.mp h2
        omega
      · exact h2
    · constructor
      · intro h
        have h' : 2 * x = (2 * (A * p2 d) : Int) * pw E := by rw [h, hn]; push_cast; grind
        have t3 : A * p2 d = p2 d * A := by grind
        rw [t3] at h'
        cases hm : more
        · rw [ex0 hm] at h'
          have := mul_pw_inj h'
          exact ⟨by omega, rfl⟩
        · exfalso
          have h1 := ex1 hm
          have h2 := x2'
          rw [h'] at h1 h2
          have := mul_pw_lt.mp h1
          have := mul_pw_lt.mp h2
          omega
      · intro ⟨h1, hm⟩
        rw [hx0 hm, hn]
        congr 2
        have t3 : A * p2 d = p2 d * A := by grind
        rw [t3]
        omega

/-- Where the pattern would be infinite, the number isn't small. -/
theorem tiny_enc {x : Rat} {q n : Int} (h : Rnd x q n) (hx : x < pw (-1022)) : enc q n < INF := by
  have h1 : Rnd (vm 4503599627370496) (expo 4503599627370496) (mant 4503599627370496) := Rnd.of_vm (by decide)
  have e : vm 4503599627370496 = pw (-1022) := by
    unfold vm
    have e1 : mant 4503599627370496 = 4503599627370496 := by decide
    have e2 : expo 4503599627370496 = -1074 := by decide
    rw [e1, e2]
    have e3 : (4503599627370496 : Int) = p2 52 := by decide
    rw [e3, ← pw_p2 (by decide), ← pw_add]
    rfl
  have h2 := h.enc_mono h1 (by rw [e]; exact Rat.le_of_lt hx)
  rw [enc_mant _ (by decide)] at h2
  unfold INF
  omega

/-- ROUNDING: of w times 2^exp, or of what is a little more than that (and then w is long enough). -/
theorem round_Round_ev (neg : Bool) {h l E : Int} (hh : U h) (hl : U l) (hE : -100000 ≤ E) (hE' : E ≤ 100000) (more : Bool) {x : Rat} (hW : 0 < wv h l)
    (hx0 : more = false → x = (wv h l : Rat) * pw E) (hx1 : more = true → ((wv h l : Rat) * pw E < x ∧ x < (wv h l + 1 : Int) * pw E) ∧ 54 ≤ blen (wv h l)) :
    ∃ b f, Ev (fun k => round_Round.f k neg h l E more) (signed neg b, f) ∧ RB x b f := by
  have hv := wv_range hh hl
  obtain ⟨bl1, bl2, bl3⟩ := blen_pos hW
  have bl4 := blen_wv_le hh hl
  generalize hWW : wv h l = W at *
  have emx : mx (-100000) (mn E 100000) = E := by unfold mx mn; grind
  have hu := pw_pos E
  have hxlo : (W : Rat) * pw E ≤ x := by
    cases more
    · rw [hx0 rfl]; exact Rat.le_refl
    · exact Rat.le_of_lt (hx1 rfl).1.1
  have hxhi : x < (W + 1 : Int) * pw E := by
    cases more
    · rw [hx0 rfl]; exact mul_pw_lt.mpr (by omega)
    · exact (hx1 rfl).1.2
  have ht : decide (wrap64 (E + blen W) < -1021) = decide (x < pw (-1022)) := by
    rw [w64 (by omega) (by omega)]
    apply decide_eq_decide.mpr
    have hxl : pw (blen W - 1 + E) ≤ x := by
      refine Rat.le_trans ?_ hxlo
      rw [pw_add, pw_p2 (a := blen W - 1) (by omega)]
      exact mul_pw_le.mpr bl2
    have hxr : x < pw (blen W + E) := by
      refine Std.lt_of_lt_of_le hxhi ?_
      rw [pw_add, pw_p2 (a := blen W) (by omega)]
      exact mul_pw_le.mpr (by omega)
    constructor
    · intro h
      exact Std.lt_of_lt_of_le hxr (pw_mono (by omega))
    · intro h
      exact Decidable.byContradiction fun hc => by
        have := pw_mono (show -1022 ≤ blen W - 1 + E from by omega)
        grind
  -- from the number of bits that fall out on
  have main : ∀ d, -1074 ≤ E + d → blen W - 53 ≤ d → (E + d = -1074 ∨ d = blen W - 53) → d ≤ 200000 → -200 ≤ d →
      ∃ b f, Ev (fun k => round_Round.j0 k neg E more d (decide (x < pw (-1022))) h l) (signed neg b, f) ∧ RB x b f := by
    intro d hq hL hq2 hd1 hd2
    by_cases hd : d > 0
    · obtain ⟨hr, hex⟩ := rup_rnd hW hd hq hL hq2 hx0 (fun h => (hx1 h).1)
      refine ⟨_, _, ?_, ⟨_, _, hr, rfl, rfl⟩⟩
      obtain ⟨a, b, ev, u1, u2, ea⟩ := wide_Right_ev (n := d) hh hl (by omega)
      have hsp := round_split_ev hh hl (by rw [hWW]; exact hW) hd (by omega)
      rw [hWW] at ev hsp ea
      refine Ev.succ ?_
      simp only [round_Round.j0]
      refine Ev.pos hd (Ev.bind ev ?_)
      dsimp only
      refine Ev.bind hsp ?_
      dsimp only
      have hD := p2_pos d
      have hP := p2_pos (d - 1)
      have e : p2 d = 2 * p2 (d - 1) := by rw [← p2_succ (by omega)]; congr 1; omega
      have m2 := Int.mul_ediv_add_emod W (p2 d)
      have s0 := Int.emod_nonneg W (Int.ne_of_gt hD)
      have s1 := Int.emod_lt_of_pos W hD
      have hA0 : 0 ≤ W / p2 d := Int.ediv_nonneg (Int.le_of_lt hW) (Int.le_of_lt hD)
      have hA1 : W / p2 d < 9007199254740992 := by
        apply Int.ediv_lt_of_lt_mul hD
        have e53 : (9007199254740992 : Int) = p2 53 := by decide
        rw [e53, ← p2_add (by decide) (by omega)]
        have := p2_le (show blen W ≤ 53 + d from by omega)
        omega
      have hb : b = W / p2 d ∧ a = 0 := by unfold wv at ea; obtain ⟨x1, x2⟩ := u1; obtain ⟨x3, x4⟩ := u2; omega
      obtain ⟨rfl, rfl⟩ := hb
      have nn := hr.n_nonneg
      have nl := hr.n_le
      have ng := hr.n_ge'
      have tt : decide (x < pw (-1022)) = true → enc (E + d) (rup W d more) < INF := fun h => tiny_enc hr (of_decide_eq_true h)
      -- what is left: j2, with the answer on 'up'
      have j2 : ∀ lost : Bool, lost = decide (¬ (W % p2 d = 0 ∧ more = false)) → ∀ up : Bool, rup W d more = (if up then W / p2 d + 1 else W / p2 d) →
          Ev (fun k => round_Round.j2 k neg E d (decide (x < pw (-1022))) lost up 0 (W / p2 d)) (signed neg (if enc (E + d) (rup W d more) < INF then enc (E + d) (rup W d more) else INF),
            if enc (E + d) (rup W d more) < INF then (if x = (rup W d more : Rat) * pw (E + d) then 0 else if x < pw (-1022) then 3 else 1) else 5) := by
        intro lost hlost up hup
        have efl : fl lost (decide (x < pw (-1022))) = (if x = (rup W d more : Rat) * pw (E + d) then 0 else if x < pw (-1022) then 3 else 1) := by
          unfold fl
          by_cases c : W % p2 d = 0 ∧ more = false
          · rw [if_pos (hex.mpr c), hlost, decide_eq_false (by simpa using c)]
            rfl
          · rw [if_neg (fun h => c (hex.mp h)), hlost, decide_eq_true c]
            simp
        rw [← efl]
        refine Ev.succ ?_
        simp only [round_Round.j2]
        cases up
        · simp only [Bool.false_eq_true, if_false] at hup
          refine Ev.neg (by decide) ?_
          have := round_j4 neg (decide (x < pw (-1022))) lost (hi := 0) (by omega) (by omega) (by omega) (by omega) rfl hq (by omega) nn nl ng tt
          rw [hup] at this ⊢
          exact this
        · simp only [if_true] at hup
          have U0 : U 0 := ⟨by decide, by decide⟩
          have U1 : U 1 := ⟨by decide, by decide⟩
          obtain ⟨a', b', e1, v1, v2, e2⟩ := wide_Add_eq (h := 0) (l := W / p2 d) (h' := 0) (l' := 1) U0 ⟨hA0, by omega⟩ U0 U1
          refine Ev.pos rfl (Ev.call e1 ?_)
          dsimp only
          have eb : b' = W / p2 d + 1 := by unfold wv at e2; obtain ⟨x1, x2⟩ := v1; obtain ⟨x3, x4⟩ := v2; omega
          rw [eb]
          have := round_j4 neg (decide (x < pw (-1022))) lost (hi := a') (by omega) (by omega) (by omega) (by omega) rfl hq (by omega) nn nl ng tt
          rw [hup] at this ⊢
          exact this
      -- j1
      by_cases hc : p2 d ≤ 2 * (W % p2 d)
      · have hne : W % p2 d ≠ 0 := by omega
        have hl1 : true = decide (¬ (W % p2 d = 0 ∧ more = false)) := by simp [hne]
        rw [if_pos hc, decide_eq_true hc]
        refine Ev.pos rfl (Ev.succ ?_)
        simp only [round_Round.j1]
        refine Ev.pos trivial ?_
        by_cases hc2 : W % p2 d ≠ p2 (d - 1)
        · rw [decide_eq_true hc2]
          refine Ev.pos rfl (j2 true hl1 true ?_)
          unfold rup; rw [if_pos ⟨hc, .inl hc2⟩]; rfl
        · rw [decide_eq_false hc2]
          refine Ev.neg (by decide) ?_
          by_cases hm : more = true
          · refine Ev.pos hm (j2 true hl1 true ?_)
            unfold rup; rw [if_pos ⟨hc, .inr (.inl hm)⟩]; rfl
          · refine Ev.neg hm ?_
            rw [u64_and1 hA0 (by omega)]
            refine j2 true hl1 _ ?_
            unfold rup
            by_cases hodd : W / p2 d % 2 = 1
            · rw [if_pos ⟨hc, .inr (.inr hodd)⟩]; simp [hodd]
            · have hno : ¬ (p2 d ≤ 2 * (W % p2 d) ∧ (W % p2 d ≠ p2 (d - 1) ∨ more = true ∨ W / p2 d % 2 = 1)) := by
                intro h
                rcases h.2 with h | h | h
                · exact hc2 h
                · exact hm h
                · exact hodd h
              rw [if_neg hno]; simp [hodd]
      · rw [if_neg hc, decide_eq_false hc]
        refine Ev.neg (by decide) ?_
        have er : rup W d more = W / p2 d := by unfold rup; rw [if_neg (fun h => hc h.1)]
        by_cases hz : W % p2 d = 0
        · rw [show decide (W % p2 d ≠ 0) = false from by simp [hz]]
          refine Ev.neg (by decide) (Ev.succ ?_)
          simp only [round_Round.j1]
          refine Ev.neg (by decide) (j2 more (by cases more <;> simp [hz]) false ?_)
          rw [er]; rfl
        · rw [show decide (W % p2 d ≠ 0) = true from by simp [hz]]
          refine Ev.pos rfl (Ev.succ ?_)
          simp only [round_Round.j1]
          refine Ev.neg (by decide) (j2 true (by simp [hz]) false ?_)
          rw [er]; rfl
    · -- nothing falls out
      have hm : more = false := by
        cases hm : more
        · rfl
        · have := (hx1 hm).2; omega
      have hP := p2_pos (-d)
      have hx : x = ((W * p2 (-d) : Int) : Rat) * pw (E + d) := by
        rw [hx0 hm]
        have : pw E = (p2 (-d) : Rat) * pw (E + d) := by rw [← pw_p2 (by omega), ← pw_add]; congr 1; omega
        rw [this]; push_cast; grind
      have hn1 : W * p2 (-d) < 9007199254740992 := by
        have e53 : (9007199254740992 : Int) = p2 (blen W) * p2 (53 - blen W) := by rw [← p2_add (by omega) (by omega), show blen W + (53 - blen W) = 53 from by omega]; decide
        have h1 : W * p2 (-d) < p2 (blen W) * p2 (-d) := Int.mul_lt_mul_of_pos_right bl3 hP
        have h2 : p2 (blen W) * p2 (-d) ≤ p2 (blen W) * p2 (53 - blen W) := Int.mul_le_mul_of_nonneg_left (p2_le (by omega)) (Int.le_of_lt (p2_pos _))
        omega
      have hn0 : 0 < W * p2 (-d) := Int.mul_pos hW hP
      have hng : E + d = -1074 ∨ 4503599627370496 ≤ W * p2 (-d) := by
        rcases hq2 with h | h
        · exact .inl h
        · refine .inr ?_
          have e52 : (4503599627370496 : Int) = p2 (blen W - 1) * p2 (-d) := by rw [← p2_add (by omega) (by omega), show blen W - 1 + -d = 52 from by omega]; decide
          rw [e52]
          exact Int.mul_le_mul_of_nonneg_right bl2 (Int.le_of_lt hP)
      have hr : Rnd x (E + d) (W * p2 (-d)) := by rw [hx]; exact Rnd.self hq hn0 hn1 hng
      refine ⟨_, _, ?_, ⟨_, _, hr, rfl, rfl⟩⟩
      have efl : fl false (decide (x < pw (-1022))) = (if x = ((W * p2 (-d) : Int) : Rat) * pw (E + d) then 0 else if x < pw (-1022) then 3 else 1) := by
        rw [if_pos hx]; rfl
      rw [← efl]
      have tt : decide (x < pw (-1022)) = true → enc (E + d) (W * p2 (-d)) < INF := fun h => tiny_enc hr (of_decide_eq_true h)
      have fin : ∀ hi, Ev (fun k => round_Round.j4 k neg E d (decide (x < pw (-1022))) false hi (W * p2 (-d))) _ := fun hi =>
        round_j4 neg (decide (x < pw (-1022))) false (hi := hi) (by omega) (by omega) (by omega) (by omega) rfl hq (by omega) (Int.le_of_lt hn0) (by omega) hng tt
      refine Ev.succ ?_
      simp only [round_Round.j0, hm]
      refine Ev.neg hd ?_
      by_cases hd0 : d < 0
      · refine Ev.pos hd0 (Ev.succ ?_)
        simp only [round_Round.j3]
        refine Ev.pos rfl ?_
        rw [w64 (x := -d) (by omega) (by omega)]
        obtain ⟨a', b', e1, v1, v2, e2⟩ := wide_Left_small (n := -d) hh hl (by omega) (by rw [hWW]; omega)
        refine Ev.call e1 ?_
        dsimp only
        have eb : b' = W * p2 (-d) := by rw [hWW] at e2; unfold wv at e2; obtain ⟨x1, x2⟩ := v1; obtain ⟨x3, x4⟩ := v2; omega
        rw [eb]
        exact fin a'
      · obtain rfl : d = 0 := by omega
        refine Ev.neg hd0 (Ev.succ ?_)
        simp only [round_Round.j3]
        refine Ev.neg (by decide) (Ev.neg (by decide) ?_)
        have e1 : W * p2 (-0) = l := by
          rw [show p2 (-0) = 1 from rfl, Int.mul_one]
          have : W < 9007199254740992 := by rw [show p2 (-0) = 1 from rfl, Int.mul_one] at hn1; exact hn1
          unfold wv at hWW; obtain ⟨x1, x2⟩ := hh; obtain ⟨x3, x4⟩ := hl; omega
        have := fin h
        rw [e1] at this ⊢
        exact this
  unfold round_Round.f
  have hz := wide_Zero_eq hh hl
  rw [hWW, decide_eq_false (by omega)] at hz
  have hlen := wide_Len_ev hh hl
  rw [hWW] at hlen
  rw [emx]
  have e1 : wrap64 (blen W - 53) = blen W - 53 := w64 (by omega) (by omega)
  have e2 : wrap64 (E + (blen W - 53)) = E + (blen W - 53) := w64 (by omega) (by omega)
  by_cases hs : E + (blen W - 53) < -1074
  · obtain ⟨b, f, ev, rb⟩ := main (-1074 - E) (by omega) (by omega) (.inl (by omega)) (by omega) (by omega)
    refine ⟨b, f, Ev.call hz (Ev.neg (by decide) (Ev.bind hlen (Ev.bind hlen ?_))), rb⟩
    rw [e1, e2, ht, w64 (x := -1074 - E) (by omega) (by omega)]
    exact Ev.pos hs ev
  · obtain ⟨b, f, ev, rb⟩ := main (blen W - 53) (by omega) (by omega) (.inr rfl) (by omega) (by omega)
    refine ⟨b, f, Ev.call hz (Ev.neg (by decide) (Ev.bind hlen (Ev.bind hlen ?_))), rb⟩
    rw [e1, e2, ht]
    exact Ev.neg hs ev

/-- The pattern without its sign; the sign; the value of a number. -/
def mag (a : Int) : Int := a % 9223372036854775808
def neg (a : Int) : Bool := decide (9223372036854775808 ≤ a)
def fin (a : Int) : Prop := mag a < INF
def val (a : Int) : Rat := if neg a then -vm (mag a) else vm (mag a)
instance (a : Int) : Decidable (fin a) := by unfold fin; exact inferInstance

theorem mag_lt {a : Int} : 0 ≤ mag a ∧ mag a < 9223372036854775808 := by unfold mag; omega
theorem mag_signed {s : Bool} {m : Int} (h0 : 0 ≤ m) (h1 : m < 9223372036854775808) : mag (signed s m) = m := by unfold mag signed; cases s <;> simp <;> omega
theorem neg_signed {s : Bool} {m : Int} (h0 : 0 ≤ m) (h1 : m < 9223372036854775808) : neg (signed s m) = s := by
  unfold neg signed
  cases s
  · simp; omega
  · simp; omega
theorem signed_eta {a : Int} (h : U a) : signed (neg a) (mag a) = a := by
  obtain ⟨h0, h1⟩ := h
  unfold signed neg mag
  by_cases c : 9223372036854775808 ≤ a
  · simp [c]; omega
  · simp [c]; omega
theorem U_signed {s : Bool} {m : Int} (h0 : 0 ≤ m) (h1 : m < 9223372036854775808) : U (signed s m) := by
  unfold U signed; cases s <;> simp <;> omega
theorem val_signed {s : Bool} {m : Int} (h0 : 0 ≤ m) (h1 : m < 9223372036854775808) : val (signed s m) = if s then -vm m else vm m := by
  unfold val; rw [mag_signed h0 h1, neg_signed h0 h1]
theorem val_zero_iff {a : Int} : val a = 0 ↔ mag a = 0 := by
  unfold val
  have h0 := (mag_lt (a := a)).1
  constructor
  · intro h
    by_cases hm : mag a = 0
    · exact hm
    · have := vm_pos (m := mag a) (by omega)
      cases hn : neg a <;> simp [hn] at h <;> grind
  · intro h
    rw [h, vm_zero]
    cases neg a <;> simp
theorem val_abs (a : Int) : vm (mag a) = if val a < 0 then -val a else val a := by
  have h0 := vm_nonneg (mag_lt (a := a)).1
  unfold val
  cases neg a <;> simp <;> grind

/-- The magnitude of a rational number. -/
def rabs (x : Rat) : Rat := if x < 0 then -x else x
theorem rabs_neg (x : Rat) : rabs (-x) = rabs x := by unfold rabs; grind
theorem rabs_val (a : Int) : rabs (val a) = vm (mag a) := (val_abs a).symm

/-- A number, rounded: the pattern and the flags; z: the sign of a zero. -/
structure Rd (x : Rat) (z : Bool) (r f : Int) : Prop where
  zero : x = 0 → r = signed z 0 ∧ f = 0
  num : x ≠ 0 → ∃ m, RB (rabs x) m f ∧ r = signed (decide (x < 0)) m

theorem Rd.unique {x : Rat} {z : Bool} {r f r' f' : Int} (h : Rd x z r f) (h' : Rd x z r' f') : r = r' ∧ f = f' := by
  by_cases hx : x = 0
  · obtain ⟨rfl, rfl⟩ := h.zero hx
    obtain ⟨rfl, rfl⟩ := h'.zero hx
    exact ⟨rfl, rfl⟩
  · obtain ⟨m, h1, rfl⟩ := h.num hx
    obtain ⟨m', h1', rfl⟩ := h'.num hx
    obtain ⟨rfl, rfl⟩ := h1.unique h1'
    exact ⟨rfl, rfl⟩
theorem Rd.range {x : Rat} {z : Bool} {r f : Int} (h : Rd x z r f) : U r ∧ mag r ≤ INF := by
  by_cases hx : x = 0
  · obtain ⟨rfl, _⟩ := h.zero hx
    exact ⟨U_signed (by decide) (by decide), by rw [mag_signed (by decide) (by decide)]; decide⟩
  · obtain ⟨m, h1, rfl⟩ := h.num hx
    have := h1.range
    have hI : INF < 9223372036854775808 := by decide
    exact ⟨U_signed this.1 (by omega), by rw [mag_signed this.1 (by omega)]; exact this.2⟩
/-- A number that is a pattern's is rounded to it, if it isn't zero. -/
theorem Rd.self {a : Int} (ha : U a) (hf : fin a) (h0 : mag a ≠ 0) (z : Bool) : Rd (val a) z a 0 := by
  have hv : val a ≠ 0 := fun h => h0 (val_zero_iff.mp h)
  have hm := (mag_lt (a := a)).1
  refine ⟨fun h => absurd h hv, fun _ => ⟨mag a, ?_, ?_⟩⟩
  · rw [rabs_val]; exact RB.self (by omega) hf
  · have e : decide (val a < 0) = neg a := by
      have := vm_pos (m := mag a) (by omega)
      unfold val
      cases neg a <;> simp <;> grind
    rw [e, signed_eta ha]
/-- Where nothing was lost, the pattern is the number. -/
theorem Rd.exact {x : Rat} {z : Bool} {r : Int} (h : Rd x z r 0) : val r = x ∧ fin r := by
  have hI : INF < 9223372036854775808 := by decide
  by_cases hx : x = 0
  · obtain ⟨rfl, _⟩ := h.zero hx
    refine ⟨?_, ?_⟩
    · rw [val_signed (by decide) (by decide), vm_zero, hx]; cases z <;> simp
    · unfold fin; rw [mag_signed (by decide) (by decide)]; decide
  · obtain ⟨m, h1, rfl⟩ := h.num hx
    have hr := h1.range
    obtain ⟨q, n, hq, e1, e2⟩ := h1.ex
    by_cases c : enc q n < INF
    · rw [if_pos c] at e1 e2
      have e3 : rabs x = (n : Rat) * pw q := by
        by_cases c2 : rabs x = (n : Rat) * pw q
        · exact c2
        · rw [if_neg c2] at e2; split at e2 <;> omega
      subst e1
      refine ⟨?_, ?_⟩
      · rw [val_signed hr.1 (by omega), hq.val_enc, ← e3]
        unfold rabs
        by_cases c3 : x < 0
        · simp [c3]
        · simp [c3]
      · unfold fin; rw [mag_signed hr.1 (by omega)]; exact c
    · rw [if_neg c] at e2; omega

theorem U_0 : U 0 := ⟨by decide, by decide⟩
theorem U_1 : U 1 := ⟨by decide, by decide⟩
def isNan (a : Int) : Bool := decide (INF < mag a)
def QNAN : Int := 9221120237041090560
def nanF (a b : Int) : Int := if signals a || signals b then 16 else 0

theorem kind_mag (a : Int) : kindOf (a % 9223372036854775808) = kindOf (mag a) := rfl
theorem kind_nan {a : Int} : kindOf (mag a) = 5 ↔ isNan a = true := by rw [kind5 mag_lt.1]; unfold isNan INF; simp
theorem kind_inf {a : Int} : kindOf (mag a) = 4 ↔ mag a = INF := kind4 mag_lt.1
theorem kind_zero {a : Int} : kindOf (mag a) = 1 ↔ mag a = 0 := kind1
theorem signals_nan {a : Int} (h : signals a = true) : isNan a = true := by unfold signals at h; unfold isNan INF mag; simp at h ⊢; exact h.1
theorem fin_nan {a : Int} (h : fin a) : isNan a = false := by unfold fin at h; unfold isNan; simp; omega
theorem expo_mono {m m' : Int} (h0 : 0 ≤ m) (h : m ≤ m') : expo m ≤ expo m' := by unfold expo; grind
theorem fin_expo {a : Int} (h : fin a) : -1074 ≤ expo (mag a) ∧ expo (mag a) ≤ 971 := by
  have h0 := (mag_lt (a := a)).1
  unfold fin INF at h
  unfold expo
  split <;> omega
theorem wl64 {m : Int} (h0 : 0 ≤ m) (h1 : m < 18446744073709551616) : wide_Wide_Left.f 0 m 64 = some (m, 0) := by
  obtain ⟨a, b, e, u1, u2, ev⟩ := wide_Left_eq (h := 0) (l := m) (n := 64) U_0 ⟨h0, h1⟩ (by decide)
  rw [e]
  have : wv m 0 = wv a b := by
    rw [ev, p2_64]
    unfold wv; omega
  obtain ⟨rfl, rfl⟩ := wv_inj ⟨h0, h1⟩ U_0 u1 u2 this
  rfl

/-- Signs and magnitudes of a sum. -/
theorem val_eq (a : Int) : val a = (if neg a then -1 else 1) * vm (mag a) := by unfold val; cases neg a <;> simp <;> grind


theorem neg_def (a : Int) : decide (9223372036854775808 ≤ a) = neg a := rfl
theorem nan_or {a b : Int} (h : ¬ (isNan a || isNan b) = true) : (isNan a || isNan b) = false ∧ isNan a = false ∧ isNan b = false := by
  cases h1 : isNan a <;> cases h2 : isNan b <;> rw [h1, h2] at h <;> simp at h ⊢
theorem fin_of {a : Int} (h1 : isNan a = false) (h2 : mag a ≠ INF) : fin a := by
  unfold isNan at h1; unfold fin; simp at h1; omega
theorem not_inf {a : Int} (h : fin a) : mag a ≠ INF := by unfold fin at h; omega
/-- The flags are small. -/
theorem RB.flags {x : Rat} {b f : Int} (h : RB x b f) : 0 ≤ f ∧ f ≤ 16 := by
  obtain ⟨q, n, _, _, rfl⟩ := h.ex
  split
  · split
    · omega
    · split <;> omega
  · omega
theorem Rd.flags {x : Rat} {z : Bool} {r f : Int} (h : Rd x z r f) : 0 ≤ f ∧ f ≤ 16 := by
  by_cases hx : x = 0
  · have := (h.zero hx).2; omega
  · obtain ⟨m, rb, _⟩ := h.num hx; exact rb.flags
theorem nanF_le (a b : Int) : 0 ≤ nanF a b ∧ nanF a b ≤ 16 := by unfold nanF; split <;> omega

def sgd (s : Bool) (X : Int) : Int := if s then -X else X
theorem Rd.any {x : Rat} {z z' : Bool} {r f : Int} (h : Rd x z r f) (hx : x ≠ 0) : Rd x z' r f := ⟨fun h => absurd h hx, h.num⟩
theorem int_pw_neg {S E : Int} : (S : Rat) * pw E < 0 ↔ S < 0 := by
  have := mul_pw_lt (a := S) (b := 0) (e := E)
  rw [← this]; simp
theorem int_pw_zero {S E : Int} : (S : Rat) * pw E = 0 ↔ S = 0 := by
  constructor
  · intro h; exact mul_pw_inj (a := S) (b := 0) (e := E) (by rw [h]; simp)
  · intro h; rw [h]; simp
theorem rabs_sgd (s : Bool) {X E : Int} (hX : 0 ≤ X) : rabs ((sgd s X : Rat) * pw E) = (X : Rat) * pw E := by
  have h0 : 0 ≤ (X : Rat) * pw E := by have := mul_pw_le (a := 0) (b := X) (e := E); simpa using this.mpr hX
  have e1 : rabs ((X : Rat) * pw E) = (X : Rat) * pw E := by unfold rabs; rw [if_neg (by grind)]
  unfold sgd
  cases s
  · exact e1
  · show rabs (((-X : Int) : Rat) * pw E) = _
    have e2 : ((-X : Int) : Rat) * pw E = -((X : Rat) * pw E) := by push_cast; grind
    rw [e2, rabs_neg, e1]
/-- The parts as the reference's Mul and Div take them. -/
theorem val_mant (a : Int) : val a = (sgd (neg a) (mant (mag a)) : Rat) * pw (expo (mag a)) := by
  rw [val_eq]; unfold vm sgd; cases neg a <;> simp <;> grind
theorem mant_U (a : Int) : U (mant (mag a)) := ⟨mant_nonneg mag_lt.1, by have := mant_lt (m := mag a); omega⟩

theorem word_Finite_eq {a : Int} (h : U a) : word_Finite.f a = some (decide (fin a)) := by
  unfold word_Finite.f
  rw [word_Exp_eq h]
  simp only [Option.bind_some]
  congr 1
  apply decide_eq_decide.mpr
  obtain ⟨h0, h1⟩ := h
  unfold fin mag INF
  constructor <;> intro h <;> omega
theorem U_of_wf {a : Int} (h : (Lit.int .u64 a).wf = true) : U a := by
  simp [Lit.wf, IntKind.min, IntKind.max, IntKind.signed, IntKind.bits] at h
  unfold U; omega
end Gim
namespace Gim
open Go Go.RowKit Go.Proofs.YtlhpejbmjbcmaaaDoorW.PrintWords Go.Proofs.YtlhpejbmjbcmaaaDoorW.PrintLast Go.Proofs.YtlhpejbmjbcmaaaDoorW.PrintMore Go.Proofs.YtlhpejbmjbcmaaaDoor.F
set_option linter.unusedVariables false
set_option linter.unusedSectionVars false

section
variable {R C : Nat} {s : Int} {d : List Int} (hR : R ≤ 100) (hC : C ≤ 100) (hs : s ≤ 1099511627776) (hu : ∀ x ∈ d, U x)
include hR hC hs hu
theorem finite_l1 {i : Nat} (hi : i < R) {nb : Bool} (next : Ev (fun K => mat_Matrix_Finite.l0 K R ((i + 1 : Nat) : Int) R C s d) nb) :
    ∀ t k : Nat, C - k = t → k ≤ C → ∃ b, Ev (fun K => mat_Matrix_Finite.l1 K i R i C k R C s d) b ∧ (b = true ↔ (∀ j : Nat, k ≤ j → j < C → fin (at4 R C s d i j)) ∧ nb = true) := by
  intro t
  induction t with
  | zero =>
    intro k h1 h2
    refine ⟨nb, Ev.succ ?_, ?_⟩
    · simp only [mat_Matrix_Finite.l1]
      rw [w64 (x := (i : Int) + 1) (by omega) (by omega)]
      exact Ev.neg (by omega) next
    · exact ⟨fun h => ⟨fun j h3 h4 => by omega, h⟩, fun h => h.2⟩
  | succ t ih =>
    intro k h1 h2
    have u := at_U (r := R) (c := C) (s := s) hu i k
    by_cases fi : fin (at4 R C s d i k)
    · obtain ⟨b, ev, hb⟩ := ih (k + 1) (by omega) (by omega)
      refine ⟨b, Ev.succ ?_, ?_⟩
      · simp only [mat_Matrix_Finite.l1]
        rw [w64 (x := (k : Int) + 1) (by omega) (by omega)]
        exact Ev.pos (by omega) (Ev.call (at_eq ⟨by omega, by omega, by omega⟩ _ _ _) (Ev.call (word_Finite_eq u) (Ev.pos (decide_eq_true fi) ev)))
      · rw [hb]
        constructor
        · rintro ⟨h3, h4⟩
          refine ⟨fun j h5 h6 => ?_, h4⟩
          by_cases e : j = k
          · subst e; exact fi
          · exact h3 j (by omega) h6
        · rintro ⟨h3, h4⟩
          exact ⟨fun j h5 h6 => h3 j (by omega) h6, h4⟩
    · refine ⟨false, Ev.succ ?_, ?_⟩
      · simp only [mat_Matrix_Finite.l1]
        exact Ev.pos (by omega) (Ev.call (at_eq ⟨by omega, by omega, by omega⟩ _ _ _) (Ev.call (word_Finite_eq u) (Ev.neg (by rw [decide_eq_false fi]; decide) (Ev.now _))))
      · constructor
        · intro h; cases h
        · intro h; exact absurd (h.1 k (Nat.le_refl _) (by omega)) fi
theorem finite_l0 : ∀ t i : Nat, R - i = t → i ≤ R → ∃ b, Ev (fun K => mat_Matrix_Finite.l0 K R i R C s d) b ∧ (b = true ↔ ∀ j k : Nat, i ≤ j → j < R → k < C → fin (at4 R C s d j k)) := by
  intro t
  induction t with
  | zero =>
    intro i h1 h2
    refine ⟨true, Ev.succ ?_, ⟨fun _ j k h3 h4 => by omega, fun _ => rfl⟩⟩
    simp only [mat_Matrix_Finite.l0]
    exact Ev.neg (by omega) (Ev.now _)
  | succ t ih =>
    intro i h1 h2
    obtain ⟨nb, ev, hn⟩ := ih (i + 1) (by omega) (by omega)
    obtain ⟨b, ev2, hb⟩ := finite_l1 hR hC hs hu (i := i) (by omega) ev C 0 (by omega) (by omega)
    refine ⟨b, Ev.succ ?_, ?_⟩
    · simp only [mat_Matrix_Finite.l0]
      exact Ev.pos (by omega) ev2
    · rw [hb, hn]
      constructor
      · rintro ⟨h3, h4⟩ j k h5 h6 h7
        by_cases e : j = i
        · subst e; exact h3 k (by omega) h7
        · exact h4 j k (by omega) h6 h7
      · intro h
        exact ⟨fun j h5 h6 => h i j (Nat.le_refl _) (by omega) h6, fun j k h5 h6 h7 => h j k (by omega) h6 h7⟩
/-- Whether all is finite. -/
theorem finite_ev : ∃ b, Ev (fun K => mat_Matrix_Finite.f K R C s d) b ∧ (b = true ↔ ∀ j k : Nat, j < R → k < C → fin (at4 R C s d j k)) := by
  unfold mat_Matrix_Finite.f
  obtain ⟨b, ev, hb⟩ := finite_l0 hR hC hs hu R 0 (by omega) (by omega)
  exact ⟨b, ev, hb.trans ⟨fun h j k h1 h2 => h j k (by omega) h1 h2, fun h j k _ h1 h2 => h j k h1 h2⟩⟩
end

/-- All of a row, or of a column, are zeros, but for the diagonal. -/
def Lone (n : Nat) (d : List Int) (i lo hi : Nat) (col : Bool) : Prop := ∀ j : Nat, lo ≤ j → j < hi → j ≠ i → mag (if col = true then at4 n n n d j i else at4 n n n d i j) = 0
section
variable {n : Nat} (hn : n ≤ 100) {d : List Int} (hu : ∀ x ∈ d, U x)
include hn hu
theorem lone_l0 {i hi : Nat} (h1 : i < n) (h2 : hi ≤ n) (col : Bool) : ∀ t k : Nat, hi - k = t → k ≤ hi → ∃ b, Ev (fun K => bal_lone.l0 K i hi col k n n n d) b ∧ (b = true ↔ Lone n d i k hi col) := by
  intro t
  induction t with
  | zero =>
    intro k h3 h4
    refine ⟨true, Ev.succ ?_, ⟨fun _ j h5 h6 => by omega, fun _ => rfl⟩⟩
    simp only [bal_lone.l0]
    exact Ev.neg (by omega) (Ev.now _)
  | succ t ih =>
    intro k h3 h4
    obtain ⟨b, ev, hb⟩ := ih (k + 1) (by omega) (by omega)
    have u1 := at_U (r := n) (c := n) (s := n) hu i k
    have u2 := at_U (r := n) (c := n) (s := n) hu k i
    have sm : Sm n n n := Sm.nat (by omega) (by omega)
    have ek : wrap64 ((k : Int) + 1) = ((k + 1 : Nat) : Int) := by rw [w64 (by omega) (by omega)]; omega
    by_cases e : k = i
    · subst e
      refine ⟨b, Ev.succ ?_, ?_⟩
      · simp only [bal_lone.l0]
        rw [ek]
        refine Ev.pos (by omega) (Ev.call (at_eq sm _ _ _) ?_)
        cases col
        · exact Ev.neg (by decide) (Ev.pos (by trivial) ev)
        · exact Ev.pos rfl (Ev.call (at_eq sm _ _ _) (Ev.pos (by trivial) ev))
      · rw [hb]
        exact ⟨fun h j h5 h6 h7 => h j (by omega) h6 h7, fun h j h5 h6 h7 => h j (by omega) h6 h7⟩
    · by_cases z : mag (if col = true then at4 n n n d k i else at4 n n n d i k) = 0
      · refine ⟨b, Ev.succ ?_, ?_⟩
        · simp only [bal_lone.l0]
          rw [ek]
          refine Ev.pos (by omega) (Ev.call (at_eq sm _ _ _) ?_)
          cases col
          · exact Ev.neg (by decide) (Ev.neg (by omega) (Ev.bind (word_Kind_ev u1) (Ev.pos (by rw [kind_mag]; exact kind_zero.mpr (by simpa using z)) ev)))
          · exact Ev.pos rfl (Ev.call (at_eq sm _ _ _) (Ev.neg (by omega) (Ev.bind (word_Kind_ev u2) (Ev.pos (by rw [kind_mag]; exact kind_zero.mpr (by simpa using z)) ev))))
        · rw [hb]
          constructor
          · intro h j h5 h6 h7
            by_cases e2 : j = k
            · subst e2; exact z
            · exact h j (by omega) h6 h7
          · exact fun h j h5 h6 h7 => h j (by omega) h6 h7
      · refine ⟨false, Ev.succ ?_, ?_⟩
        · simp only [bal_lone.l0]
          refine Ev.pos (by omega) (Ev.call (at_eq sm _ _ _) ?_)
          cases col
          · exact Ev.neg (by decide) (Ev.neg (by omega) (Ev.bind (word_Kind_ev u1) (Ev.neg (by rw [kind_mag]; exact fun h => z (by simpa using kind_zero.mp h)) (Ev.now _))))
          · exact Ev.pos rfl (Ev.call (at_eq sm _ _ _) (Ev.neg (by omega) (Ev.bind (word_Kind_ev u2) (Ev.neg (by rw [kind_mag]; exact fun h => z (by simpa using kind_zero.mp h)) (Ev.now _)))))
        · constructor
          · intro h; cases h
          · intro h; exact absurd (h k (Nat.le_refl _) (by omega) e) z
theorem lone_ev {i lo hi : Nat} (h1 : i < n) (h2 : hi ≤ n) (h3 : lo ≤ hi) (col : Bool) : ∃ b, Ev (fun K => bal_lone.f K n n n d i lo hi col) b ∧ (b = true ↔ Lone n d i lo hi col) := by
  unfold bal_lone.f
  exact lone_l0 hn hu h1 h2 col _ lo rfl h3
end
end Gim
namespace Gim
open Go Go.RowKit Go.Proofs.YtlhpejbmjbcmaaaDoorW.PrintWords Go.Proofs.YtlhpejbmjbcmaaaDoorW.PrintLast Go.Proofs.YtlhpejbmjbcmaaaDoorW.PrintMore Go.Proofs.YtlhpejbmjbcmaaaDoor.F
set_option linter.unusedVariables false

theorem gat_get {R C x : Nat} {g : Nat → Nat → Int} (h : x < (gat R C g).length) : (gat R C g)[x] = g (x / C) (x % C) := by simp [gat]
theorem set_gat {R C i k : Nat} {g : Nat → Nat → Int} (hi : i < R) (hk : k < C) (v : Int) : set4 R C C (gat R C g) i k v = gat R C (fun x y => if x = i ∧ y = k then v else g x y) := by
  unfold set4
  rw [if_pos (inB_dense gat_length hi hk)]
  have hn : ((i : Int) * (C : Int) + (k : Int)).toNat = i * C + k := by
    have : (i : Int) * (C : Int) + (k : Int) = ((i * C + k : Nat) : Int) := by push_cast; rfl
    rw [this, Int.toNat_natCast]
  rw [hn]
  apply List.ext_getElem
  · rw [List.length_set, gat_length, gat_length]
  · intro x h1 h2
    rw [gat_get, List.getElem_set]
    by_cases c : i * C + k = x
    · subst c
      rw [if_pos rfl, place_div hk, place_mod hk, if_pos ⟨rfl, rfl⟩]
    · rw [if_neg c, gat_get, if_neg]
      rintro ⟨e1, e2⟩
      have := Nat.div_add_mod x C
      rw [e1, e2, Nat.mul_comm] at this
      exact c this

def cnt (n : Nat) (f : Nat → Int) : List Int := (List.range n).map f
theorem cnt_len (n : Nat) (f : Nat → Int) : (cnt n f).length = n := by simp [cnt]
theorem cnt_rd {n i : Nat} (f : Nat → Int) (h : i < n) : rd (cnt n f) (i : Int) = f i := by
  unfold rd cnt; simp [List.getD_eq_getElem?_getD, h]
end Gim
namespace Gim
open Go Go.RowKit Go.Proofs.YtlhpejbmjbcmaaaDoorW.PrintWords Go.Proofs.YtlhpejbmjbcmaaaDoorW.PrintLast Go.Proofs.YtlhpejbmjbcmaaaDoorW.PrintMore Go.Proofs.YtlhpejbmjbcmaaaDoor.F
set_option linter.unusedVariables false
set_option linter.unusedSectionVars false

/-- Two places changed. -/
def sw (i k x : Nat) : Nat := if x = i then k else if x = k then i else x
theorem sw_lt {n i k x : Nat} (hi : i < n) (hk : k < n) (hx : x < n) : sw i k x < n := by unfold sw; split <;> (try split) <;> omega
theorem sw_inj {i k x y : Nat} (h : sw i k x = sw i k y) : x = y := by
  unfold sw at h
  repeat' split at h
  all_goals omega
theorem sw_self {i x : Nat} : sw i i x = x := by unfold sw; split <;> (try split) <;> omega
theorem sw_sw {i k x : Nat} : sw i k (sw i k x) = x := by
  unfold sw
  by_cases c1 : x = i
  · rw [if_pos c1]
    by_cases c2 : k = i
    · rw [if_pos c2]; omega
    · rw [if_neg c2, if_pos rfl]; omega
  · rw [if_neg c1]
    by_cases c2 : x = k
    · rw [if_pos c2, if_pos rfl]; omega
    · rw [if_neg c2, if_neg c1, if_neg c2]
theorem cnt_congr {n : Nat} {f g : Nat → Int} (h : ∀ i, i < n → f i = g i) : cnt n f = cnt n g := by
  unfold cnt
  exact List.map_congr_left fun x hx => h x (List.mem_range.mp hx)
theorem cnt_set {n i : Nat} (f : Nat → Int) (v : Int) : (cnt n f).set i v = cnt n (fun x => if x = i then v else f x) := by
  unfold cnt
  apply List.ext_getElem
  · simp
  · intro j h1 h2
    simp only [List.getElem_set, List.getElem_map, List.getElem_range]
    by_cases c : i = j
    · subst c; simp
    · rw [if_neg c, if_neg (by omega)]
section
variable {n : Nat} (hn : n ≤ 100)
include hn
theorem swap_l1 {i k : Nat} (hi : i < n) (hk : k < n) (B : Nat → Nat → Int) {lo hi2 : Int} {pl pw : List Int} : ∀ t j : Nat, n - j = t → j ≤ n →
    Ev (fun K => bal_swap.l1 K i k n j (gat n n (fun x y => if x < j then B x (sw i k y) else B x y)) lo hi2 pl pw n n) (gat n n (fun x y => B x (sw i k y)), lo, hi2, pl, pw) := by
  intro t
  induction t with
  | zero =>
    intro j h1 h2
    obtain rfl : j = n := by omega
    refine Ev.succ ?_
    simp only [bal_swap.l1]
    refine Ev.neg (by omega) ?_
    rw [gat_congr (g' := fun x y => B x (sw i k y)) (fun x y hx hy => if_pos hx)]
    exact Ev.now _
  | succ t ih =>
    intro j h1 h2
    have hj : j < n := by omega
    have sm : Sm n n n := Sm.nat (by omega) (by omega)
    have hh := ih (j + 1) (by omega) (by omega)
    refine Ev.succ ?_
    simp only [bal_swap.l1]
    rw [w64 (x := (j : Int) + 1) (by omega) (by omega)]
    refine Ev.pos (by omega) (Ev.call (at_eq sm _ _ _) (Ev.call (at_eq sm _ _ _) (Ev.call (set_eq sm _ _ _ _) (Ev.call (set_eq sm _ _ _ _) ?_))))
    rw [at_gat hj hi, at_gat hj hk, set_gat hj hi, set_gat hj hk]
    rw [if_neg (Nat.lt_irrefl j), if_neg (Nat.lt_irrefl j)]
    rw [gat_congr (g' := fun x y => if x < j + 1 then B x (sw i k y) else B x y)]
    · exact hh
    · intro x y hx hy
      by_cases c1 : x = j
      · subst c1
        rw [if_pos (show x < x + 1 by omega)]
        by_cases c2 : y = k
        · subst c2
          rw [if_pos ⟨rfl, rfl⟩]
          unfold sw
          split
          · rename_i e; rw [e]
          · rw [if_pos rfl]
        · rw [if_neg (fun h => c2 h.2)]
          by_cases c3 : y = i
          · subst c3
            rw [if_pos ⟨rfl, rfl⟩]
            unfold sw
            rw [if_pos rfl]
          · rw [if_neg (fun h => c3 h.2), if_neg (Nat.lt_irrefl x)]
            unfold sw
            rw [if_neg c3, if_neg c2]
      · rw [if_neg (fun h => c1 h.1), if_neg (fun h => c1 h.1)]
        by_cases c2 : x < j
        · rw [if_pos c2, if_pos (by omega)]
        · rw [if_neg c2, if_neg (by omega)]
theorem swap_l0 {i k : Nat} (hi : i < n) (hk : k < n) (A : Nat → Nat → Int) {lo hi2 : Int} {pl pw : List Int} : ∀ t j : Nat, n - j = t → j ≤ n →
    Ev (fun K => bal_swap.l0 K i k n j (gat n n (fun x y => if y < j then A (sw i k x) y else A x y)) lo hi2 pl pw n n) (gat n n (fun x y => A (sw i k x) (sw i k y)), lo, hi2, pl, pw) := by
  intro t
  induction t with
  | zero =>
    intro j h1 h2
    obtain rfl : n = j := by omega
    refine Ev.succ ?_
    simp only [bal_swap.l0]
    refine Ev.neg (by omega) ?_
    have := swap_l1 hn hi hk (fun x y => A (sw i k x) y) (lo := lo) (hi2 := hi2) (pl := pl) (pw := pw) n 0 (by omega) (by omega)
    rw [gat_congr (g' := fun x y => if x < 0 then A (sw i k x) (sw i k y) else A (sw i k x) y) (fun x y hx hy => by rw [if_pos hy, if_neg (Nat.not_lt_zero x)])]
    exact this
  | succ t ih =>
    intro j h1 h2
    have hj : j < n := by omega
    have sm : Sm n n n := Sm.nat (by omega) (by omega)
    have hh := ih (j + 1) (by omega) (by omega)
    refine Ev.succ ?_
    simp only [bal_swap.l0]
    rw [w64 (x := (j : Int) + 1) (by omega) (by omega)]
    refine Ev.pos (by omega) (Ev.call (at_eq sm _ _ _) (Ev.call (at_eq sm _ _ _) (Ev.call (set_eq sm _ _ _ _) (Ev.call (set_eq sm _ _ _ _) ?_))))
    rw [at_gat hi hj, at_gat hk hj, set_gat hi hj, set_gat hk hj]
    rw [if_neg (Nat.lt_irrefl j), if_neg (Nat.lt_irrefl j)]
    rw [gat_congr (g' := fun x y => if y < j + 1 then A (sw i k x) y else A x y)]
    · exact hh
    · intro x y hx hy
      by_cases c1 : y = j
      · subst c1
        rw [if_pos (show y < y + 1 by omega)]
        by_cases c2 : x = k
        · subst c2
          rw [if_pos ⟨rfl, rfl⟩]
          unfold sw
          split
          · rename_i e; rw [e]
          · rw [if_pos rfl]
        · rw [if_neg (fun h => c2 h.1)]
          by_cases c3 : x = i
          · subst c3
            rw [if_pos ⟨rfl, rfl⟩]
            unfold sw
            rw [if_pos rfl]
          · rw [if_neg (fun h => c3 h.1), if_neg (Nat.lt_irrefl y)]
            unfold sw
            rw [if_neg c3, if_neg c2]
      · rw [if_neg (fun h => c1 h.2), if_neg (fun h => c1 h.2)]
        by_cases c2 : y < j
        · rw [if_pos c2, if_pos (by omega)]
        · rw [if_neg c2, if_neg (by omega)]
/-- SWAP. -/
theorem swap_ev {i k : Nat} (hi : i < n) (hk : k < n) (A : Nat → Nat → Int) (p : Nat → Int) {lo hi2 : Int} {pw : List Int} :
    Ev (fun K => bal_swap.f K n n n (gat n n A) (cnt n p) pw lo hi2 i k) (gat n n (fun x y => A (sw i k x) (sw i k y)), lo, hi2, cnt n (fun x => p (sw i k x)), pw) := by
  unfold bal_swap.f
  by_cases c : i = k
  · subst c
    refine Ev.pos rfl ?_
    rw [gat_congr (g' := fun x y => A (sw i i x) (sw i i y)) (fun x y _ _ => by rw [sw_self, sw_self]), cnt_congr (g := fun x => p (sw i i x)) (fun x _ => by rw [sw_self])]
    exact Ev.now _
  · have hl := cnt_len n p
    refine Ev.neg (by omega) (Ev.pos (by omega) (Ev.pos (by omega) (Ev.pos (by omega) (Ev.pos (by omega) ?_))))
    rw [cnt_rd p hi, cnt_rd p hk, Int.toNat_natCast, Int.toNat_natCast, cnt_set, cnt_set]
    have := swap_l0 hn hi hk A (lo := lo) (hi2 := hi2) (pl := cnt n (fun x => p (sw i k x))) (pw := pw) n 0 (by omega) (by omega)
    rw [gat_congr (g' := A) (fun x y _ _ => if_neg (Nat.not_lt_zero y))] at this
    rw [cnt_congr (g := fun x => p (sw i k x))]
    · exact this
    · intro x hx
      show (if x = k then p i else if x = i then p k else p x) = p (sw i k x)
      unfold sw
      by_cases c1 : x = i
      · subst c1; rw [if_neg c, if_pos rfl, if_pos rfl]
      · by_cases c2 : x = k
        · subst c2; rw [if_pos rfl, if_neg c1, if_pos rfl]
        · rw [if_neg c2, if_neg c1, if_neg c1, if_neg c2]
end
/-- A row, or a column, has zeros alone among some, but for the diagonal. -/
def LoneA (A : Nat → Nat → Int) (i lo hi : Nat) (col : Bool) : Prop := ∀ j : Nat, lo ≤ j → j < hi → j ≠ i → mag (if col = true then A j i else A i j) = 0
theorem lone_gat {n i lo hi : Nat} {A : Nat → Nat → Int} {col : Bool} (h1 : i < n) (h2 : hi ≤ n) : Lone n (gat n n A) i lo hi col ↔ LoneA A i lo hi col := by
  unfold Lone LoneA
  have e : ∀ j, j < hi → (if col = true then at4 n n n (gat n n A) j i else at4 n n n (gat n n A) i j) = (if col = true then A j i else A i j) := by
    intro j hj
    rw [at_gat (show j < n by omega) h1, at_gat h1 (show j < n by omega)]
  constructor
  · intro h j a b c; rw [← e j b]; exact h j a b c
  · intro h j a b c; rw [e j b]; exact h j a b c
/-- What holds of a matrix whose rows and columns were changed, some of which are apart. -/
structure BS (n : Nat) (m A : Nat → Nat → Int) (p : Nat → Nat) (lo hi : Nat) : Prop where
  lohi : lo ≤ hi
  hin : hi ≤ n
  plt : ∀ i, i < n → p i < n
  pin : ∀ i j, i < n → j < n → p i = p j → i = j
  eq : ∀ i k, i < n → k < n → A i k = m (p i) (p k)
  u : ∀ i k, U (A i k)
  ap1 : ∀ i k, i < n → k < i → hi ≤ i → mag (A i k) = 0
  ap2 : ∀ i k, i < n → k < i → k < lo → mag (A i k) = 0
theorem BS.swapped {n : Nat} {m A : Nat → Nat → Int} {p : Nat → Nat} {lo hi lo' hi' i k : Nat} (h : BS n m A p lo hi) (hi1 : i < n) (hk : k < n) (h1 : lo' ≤ hi') (h2 : hi' ≤ n)
    (a1 : ∀ x y, x < n → y < x → hi' ≤ x → mag (A (sw i k x) (sw i k y)) = 0) (a2 : ∀ x y, x < n → y < x → y < lo' → mag (A (sw i k x) (sw i k y)) = 0) :
    BS n m (fun x y => A (sw i k x) (sw i k y)) (fun x => p (sw i k x)) lo' hi' where
  lohi := h1
  hin := h2
  plt x hx := h.plt _ (sw_lt hi1 hk hx)
  pin x y hx hy e := sw_inj (h.pin _ _ (sw_lt hi1 hk hx) (sw_lt hi1 hk hy) e)
  eq x y hx hy := h.eq _ _ (sw_lt hi1 hk hx) (sw_lt hi1 hk hy)
  u x y := h.u _ _
  ap1 := a1
  ap2 := a2

abbrev BR := Int × Int × Int × List Int × List Int × List Int × Int × Int × Int
section
variable {n : Nat} (hn : n ≤ 100) {m : Nat → Nat → Int} {pw : List Int}
include hn
/-- Rows of zeros go to the end. -/
theorem rows_ev : ∀ (hi : Nat) (A : Nat → Nat → Int) (p : Nat → Nat), BS n m A p 0 hi →
    ∃ A' p' hi', BS n m A' p' 0 hi' ∧ (∀ i, i < hi' → ¬ LoneA A' i 0 hi' false) ∧
      ∀ ρ : BR, Ev (fun K => bal_Of.l3 K n n n 0 hi' (gat n n A') (cnt n (fun x => (p' x : Int))) pw) ρ → Ev (fun K => bal_Of.l1 K n n n 0 hi (gat n n A) (cnt n (fun x => (p x : Int))) pw) ρ := by
  intro hi
  induction hi with
  | zero =>
    intro A p h
    refine ⟨A, p, 0, h, fun i hi => by omega, fun ρ hr => Ev.succ ?_⟩
    simp only [bal_Of.l1]
    rw [w64 (by omega) (by omega)]
    refine Ev.succ ?_
    simp only [bal_Of.l2]
    exact Ev.neg (by omega) hr
  | succ hi ih =>
    intro A p h
    have hin := h.hin
    have inner : ∀ t : Nat, t ≤ hi + 1 → (∀ j, t ≤ j → j < hi + 1 → ¬ LoneA A j 0 (hi + 1) false) →
        ∃ A' p' hi', BS n m A' p' 0 hi' ∧ (∀ i, i < hi' → ¬ LoneA A' i 0 hi' false) ∧
          ∀ ρ : BR, Ev (fun K => bal_Of.l3 K n n n 0 hi' (gat n n A') (cnt n (fun x => (p' x : Int))) pw) ρ → Ev (fun K => bal_Of.l2 K ((t : Int) - 1) n n n 0 ((hi + 1 : Nat) : Int) (gat n n A) (cnt n (fun x => (p x : Int))) pw) ρ := by
      intro t
      induction t with
      | zero =>
        intro _ hj
        refine ⟨A, p, hi + 1, h, fun i hi => hj i (by omega) hi, fun ρ hr => Ev.succ ?_⟩
        simp only [bal_Of.l2]
        exact Ev.neg (by omega) hr
      | succ t iht =>
        intro ht hj
        have e1 : ((t + 1 : Nat) : Int) - 1 = (t : Int) := by omega
        obtain ⟨b, eb, hb⟩ := lone_ev hn (d := gat n n A) (gat_U h.u) (i := t) (lo := 0) (hi := hi + 1) (by omega) (by omega) (by omega) false
        rw [lone_gat (by omega) (by omega)] at hb
        cases b
        · obtain ⟨A', p', hi', g1, g2, g3⟩ := iht (by omega) (fun j a c => by
            by_cases e : j = t
            · subst e; intro hh; exact absurd (hb.mpr hh) (by decide)
            · exact hj j (by omega) c)
          refine ⟨A', p', hi', g1, g2, fun ρ hr => Ev.succ ?_⟩
          simp only [bal_Of.l2]
          rw [e1, w64 (x := (t : Int) - 1) (by omega) (by omega)]
          exact Ev.pos (by omega) (Ev.bind eb (Ev.neg (by decide) (g3 ρ hr)))
        · have hl := hb.mp rfl
          have hs : BS n m (fun x y => A (sw t hi x) (sw t hi y)) (fun x => p (sw t hi x)) 0 hi := by
            refine h.swapped (by omega) (by omega) (by omega) (by omega) ?_ (fun x y _ _ c => by omega)
            intro x y hx hy hh
            by_cases c : x = hi
            · subst c
              have e2 : sw t x x = t := by unfold sw; split <;> simp_all
              rw [e2]
              have := hl (sw t x y) (by omega) (by unfold sw; split <;> (try split) <;> omega) (by unfold sw; split <;> (try split) <;> omega)
              simpa using this
            · have e2 : sw t hi x = x := by unfold sw; rw [if_neg (by omega), if_neg c]
              rw [e2]
              exact h.ap1 x _ hx (by unfold sw; split <;> (try split) <;> omega) (by omega)
          obtain ⟨A', p', hi', g1, g2, g3⟩ := ih _ _ hs
          refine ⟨A', p', hi', g1, g2, fun ρ hr => Ev.succ ?_⟩
          simp only [bal_Of.l2]
          rw [e1, w64 (x := ((hi + 1 : Nat) : Int) - 1) (by omega) (by omega), show ((hi + 1 : Nat) : Int) - 1 = (hi : Int) from by omega]
          exact Ev.pos (by omega) (Ev.bind eb (Ev.pos rfl (Ev.bind (swap_ev hn (by omega) (by omega) A (fun x => (p x : Int))) (g3 ρ hr))))
    obtain ⟨A', p', hi', g1, g2, g3⟩ := inner (hi + 1) (by omega) (fun j a c => by omega)
    refine ⟨A', p', hi', g1, g2, fun ρ hr => Ev.succ ?_⟩
    simp only [bal_Of.l1]
    rw [w64 (by omega) (by omega)]
    exact g3 ρ hr
/-- Columns of zeros go to the front; no row of zeros is left. -/
theorem cols_ev : ∀ (t lo hi : Nat) (A : Nat → Nat → Int) (p : Nat → Nat), hi - lo = t → BS n m A p lo hi → (∀ i, i < hi → ¬ LoneA A i 0 hi false) →
    ∃ A' p' lo', BS n m A' p' lo' hi ∧ (∀ i, i < hi → ¬ LoneA A' i 0 hi false) ∧ (∀ i, lo' ≤ i → i < hi → ¬ LoneA A' i lo' hi true) ∧
      ∀ ρ : BR, Ev (fun K => bal_Of.l5 K true 0 n n n lo' hi (gat n n A') (cnt n (fun x => (p' x : Int))) pw) ρ → Ev (fun K => bal_Of.l3 K n n n lo hi (gat n n A) (cnt n (fun x => (p x : Int))) pw) ρ := by
  intro t
  induction t with
  | zero =>
    intro lo hi A p e h hr
    have hin := h.hin
    have hlh := h.lohi
    refine ⟨A, p, lo, h, hr, fun i a b => by omega, fun ρ g => Ev.succ ?_⟩
    simp only [bal_Of.l3]
    refine Ev.succ ?_
    simp only [bal_Of.l4]
    exact Ev.neg (by omega) g
  | succ t ih =>
    intro lo hi A p e h hr
    have hin := h.hin
    have hlh := h.lohi
    have inner : ∀ s i : Nat, hi - i = s → lo ≤ i → i ≤ hi → (∀ j, lo ≤ j → j < i → ¬ LoneA A j lo hi true) →
        ∃ A' p' lo', BS n m A' p' lo' hi ∧ (∀ i, i < hi → ¬ LoneA A' i 0 hi false) ∧ (∀ i, lo' ≤ i → i < hi → ¬ LoneA A' i lo' hi true) ∧
          ∀ ρ : BR, Ev (fun K => bal_Of.l5 K true 0 n n n lo' hi (gat n n A') (cnt n (fun x => (p' x : Int))) pw) ρ → Ev (fun K => bal_Of.l4 K i n n n lo hi (gat n n A) (cnt n (fun x => (p x : Int))) pw) ρ := by
      intro s
      induction s with
      | zero =>
        intro i e1 e2 e3 hj
        refine ⟨A, p, lo, h, hr, fun j a b => hj j a (by omega), fun ρ g => Ev.succ ?_⟩
        simp only [bal_Of.l4]
        exact Ev.neg (by omega) g
      | succ s ihs =>
        intro i e1 e2 e3 hj
        obtain ⟨b, eb, hb⟩ := lone_ev hn (d := gat n n A) (gat_U h.u) (i := i) (lo := lo) (hi := hi) (by omega) (by omega) (by omega) true
        rw [lone_gat (by omega) (by omega)] at hb
        cases b
        · obtain ⟨A', p', lo', g1, g2, g3, g4⟩ := ihs (i + 1) (by omega) (by omega) (by omega) (fun j a c => by
            by_cases ee : j = i
            · subst ee; intro hh; exact absurd (hb.mpr hh) (by decide)
            · exact hj j a (by omega))
          refine ⟨A', p', lo', g1, g2, g3, fun ρ g => Ev.succ ?_⟩
          simp only [bal_Of.l4]
          rw [w64 (x := (i : Int) + 1) (by omega) (by omega)]
          exact Ev.pos (by omega) (Ev.bind eb (Ev.neg (by decide) (g4 ρ g)))
        · have hl := hb.mp rfl
          have hs : BS n m (fun x y => A (sw i lo x) (sw i lo y)) (fun x => p (sw i lo x)) (lo + 1) hi := by
            refine h.swapped (by omega) (by omega) (by omega) (by omega) ?_ ?_
            · intro x y hx hy hh
              have e2 : sw i lo x = x := by unfold sw; rw [if_neg (by omega), if_neg (by omega)]
              rw [e2]
              exact h.ap1 x _ hx (by unfold sw; split <;> (try split) <;> omega) hh
            · intro x y hx hy hh
              by_cases c : y = lo
              · subst c
                have e2 : sw i y y = i := by unfold sw; split <;> simp_all
                rw [e2]
                by_cases c2 : x < hi
                · have := hl (sw i y x) (by unfold sw; split <;> (try split) <;> omega) (by unfold sw; split <;> (try split) <;> omega) (by unfold sw; split <;> (try split) <;> omega)
                  simpa using this
                · have e3 : sw i y x = x := by unfold sw; rw [if_neg (by omega), if_neg (by omega)]
                  rw [e3]
                  exact h.ap1 x i hx (by omega) (by omega)
              · have e2 : sw i lo y = y := by unfold sw; rw [if_neg (by omega), if_neg c]
                rw [e2]
                exact h.ap2 _ y (sw_lt (by omega) (by omega) hx) (by unfold sw; split <;> (try split) <;> omega) (by omega)
          have hr' : ∀ x, x < hi → ¬ LoneA (fun x y => A (sw i lo x) (sw i lo y)) x 0 hi false := by
            intro x hx hh
            refine hr (sw i lo x) (by unfold sw; split <;> (try split) <;> omega) fun j a b c => ?_
            have := hh (sw i lo j) (by omega) (by unfold sw; split <;> (try split) <;> omega) (fun e => c (by
              rw [← e]
              unfold sw
              repeat' split
              all_goals omega))
            simp only [Bool.false_eq_true, if_false] at this ⊢
            rw [sw_sw] at this
            exact this
          obtain ⟨A', p', lo', g1, g2, g3, g4⟩ := ih (lo + 1) hi _ _ (by omega) hs hr'
          refine ⟨A', p', lo', g1, g2, g3, fun ρ g => Ev.succ ?_⟩
          simp only [bal_Of.l4]
          have g5 := g4 ρ g
          refine Ev.pos (by omega) (Ev.bind eb (Ev.pos rfl (Ev.bind (swap_ev hn (by omega) (by omega) A (fun x => (p x : Int))) ?_)))
          dsimp only
          rw [w64 (x := (lo : Int) + 1) (by omega) (by omega)]
          exact g5
    obtain ⟨A', p', lo', g1, g2, g3, g4⟩ := inner (t + 1) lo (by omega) (by omega) (by omega) (fun j a b => by omega)
    refine ⟨A', p', lo', g1, g2, g3, fun ρ g => Ev.succ ?_⟩
    simp only [bal_Of.l3]
    exact g4 ρ g
end
end Gim
namespace Gim
open Go Go.RowKit Go.Proofs.YtlhpejbmjbcmaaaDoorW.PrintWords Go.Proofs.YtlhpejbmjbcmaaaDoorW.PrintLast Go.Proofs.YtlhpejbmjbcmaaaDoorW.PrintMore Go.Proofs.YtlhpejbmjbcmaaaDoor.F
set_option linter.unusedVariables false

theorem RB.huge {x : Rat} {b f : Int} (h : RB x b f) (hx : pw 1024 ≤ x) : b = INF ∧ f = 5 := by
  obtain ⟨q, n, hr, rfl, rfl⟩ := h.ex
  have e53 : ((9007199254740992 : Int) : Rat) = pw 53 := by rw [pw_p2 (by decide)]; rfl
  have h1 : pw 1024 < pw (53 + q) := by rw [pw_add, ← e53]; exact Std.lt_of_le_of_lt hx hr.hi
  have hq : 972 ≤ q := by
    refine Decidable.byContradiction fun hc => ?_
    have := pw_mono (show 53 + q ≤ 1024 by omega)
    grind
  have hn : 4503599627370496 ≤ n := by rcases hr.n_ge' with h | h <;> omega
  have e : ¬ enc q n < INF := by unfold enc INF; omega
  rw [if_neg e, if_neg e]; exact ⟨rfl, rfl⟩
theorem RB.small {x : Rat} {b f : Int} (h : RB x b f) (hx : x < pw (-1075)) : b = 0 ∧ f = 3 := by
  obtain ⟨q, n, hr, rfl, rfl⟩ := h.ex
  have e52 : ((4503599627370496 : Int) : Rat) = pw 52 := by rw [pw_p2 (by decide)]; rfl
  have hq : q = -1074 := by
    rcases hr.lo with h | h
    · exact h
    · rw [e52, ← pw_add] at h
      have h2 : pw (52 + q) < pw (-1075) := Std.lt_of_le_of_lt h hx
      have h3 := hr.hq
      have := pw_mono (show -1075 ≤ 52 + q by omega)
      grind
  subst hq
  have h1 := hr.near2
  have e2 := pw_pred (-1074)
  have hn : n ≤ 0 := by
    refine Decidable.byContradiction fun hc => ?_
    have h3 : ((1 : Int) : Rat) * pw (-1074) ≤ ((2 * n - 1 : Int) : Rat) * pw (-1074) := mul_pw_le.mpr (by omega)
    rw [show (-1074 : Int) - 1 = -1075 from by decide] at e2
    have e3 : ((1 : Int) : Rat) * pw (-1074) = pw (-1074) := by simp
    grind
  have hn0 := hr.n_nonneg
  obtain rfl : n = 0 := by omega
  have e : enc (-1074) 0 < INF := by decide
  have hp := hr.pos
  have hm := pw_mono (show (-1075 : Int) ≤ -1022 by decide)
  rw [if_pos e, if_pos e, if_neg (by simp; grind), if_pos (by grind)]
  exact ⟨rfl, rfl⟩

def ScaleR (a c r f : Int) : Prop :=
  if isNan a = true then r = QNAN ∧ f = (if signals a then 16 else 0)
  else if mag a = INF ∨ mag a = 0 then r = a ∧ f = 0
  else Rd (val a * pw c) (neg a) r f
theorem val_scale (a c : Int) : val a * pw c = (sgd (neg a) (mant (mag a)) : Rat) * pw (expo (mag a) + c) := by
  rw [val_mant, pw_add]; grind
theorem sgd_neg (s : Bool) {X : Int} (hX : 0 < X) : sgd s X < 0 ↔ s = true := by unfold sgd; cases s <;> simp <;> omega
theorem sgd_zero (s : Bool) {X : Int} : sgd s X = 0 ↔ X = 0 := by unfold sgd; cases s <;> simp
/-- A rounded magnitude, with its sign. -/
theorem Rd.of_sgd (s : Bool) {X E m f : Int} (hX : 0 < X) (z : Bool) (h : RB ((X : Rat) * pw E) m f) : Rd ((sgd s X : Rat) * pw E) z (signed s m) f := by
  refine ⟨fun h0 => ?_, fun _ => ⟨m, by rw [rabs_sgd s (by omega)]; exact h, ?_⟩⟩
  · have := (sgd_zero s).mp (int_pw_zero.mp h0); omega
  · congr 1
    rw [Bool.eq_iff_iff, decide_eq_true_eq, int_pw_neg, sgd_neg s hX]
theorem ScaleR.unique {a c c' r f r' f' : Int} (h : ScaleR a c r f) (h' : ScaleR a c' r' f') (hc : c = c' ∨ (5000 ≤ c ∧ 5000 ≤ c') ∨ (c ≤ -5000 ∧ c' ≤ -5000)) : r = r' ∧ f = f' := by
  unfold ScaleR at h h'
  by_cases c1 : isNan a = true
  · rw [if_pos c1] at h h'; omega
  · rw [if_neg c1] at h h'
    by_cases c2 : mag a = INF ∨ mag a = 0
    · rw [if_pos c2] at h h'; omega
    · rw [if_neg c2] at h h'
      rcases hc with hc | hc
      · subst hc; exact h.unique h'
      · have fa : fin a := fin_of (by simpa using c1) (fun hh => c2 (.inl hh))
        obtain ⟨e1, e2⟩ := fin_expo fa
        have m0 := mant_pos (m := mag a) (by have := (mag_lt (a := a)).1; omega)
        have m1 := mant_lt (m := mag a)
        have e53 : ((9007199254740992 : Int) : Rat) = pw 53 := by rw [pw_p2 (by decide)]; rfl
        have key : ∀ c r f, Rd (val a * pw c) (neg a) r f → ∃ m, r = signed (neg a) m ∧ RB ((mant (mag a) : Rat) * pw (expo (mag a) + c)) m f := by
          intro c r f h
          rw [val_scale] at h
          obtain ⟨m, rb, e⟩ := h.num (fun h0 => by have := (sgd_zero _).mp (int_pw_zero.mp h0); omega)
          rw [rabs_sgd _ (by omega)] at rb
          refine ⟨m, ?_, rb⟩
          rw [e]; congr 1
          rw [Bool.eq_iff_iff, decide_eq_true_eq, int_pw_neg, sgd_neg _ m0]
        have big : ∀ c m f, 5000 ≤ c → RB ((mant (mag a) : Rat) * pw (expo (mag a) + c)) m f → m = INF ∧ f = 5 := by
          intro c m f hc rb
          refine rb.huge ?_
          have h1 : ((1 : Int) : Rat) * pw (expo (mag a) + c) ≤ (mant (mag a) : Rat) * pw (expo (mag a) + c) := mul_pw_le.mpr (by omega)
          have h2 := pw_mono (show (1024 : Int) ≤ expo (mag a) + c by omega)
          have e3 : ((1 : Int) : Rat) * pw (expo (mag a) + c) = pw (expo (mag a) + c) := by simp
          grind
        have low : ∀ c m f, c ≤ -5000 → RB ((mant (mag a) : Rat) * pw (expo (mag a) + c)) m f → m = 0 ∧ f = 3 := by
          intro c m f hc rb
          refine rb.small ?_
          have h1 : (mant (mag a) : Rat) * pw (expo (mag a) + c) < ((9007199254740992 : Int) : Rat) * pw (expo (mag a) + c) := mul_pw_lt.mpr m1
          rw [e53, ← pw_add] at h1
          exact Std.lt_of_lt_of_le h1 (pw_mono (by omega))
        obtain ⟨m, rfl, rb⟩ := key c r f h
        obtain ⟨m', rfl, rb'⟩ := key c' r' f' h'
        rcases hc with ⟨h1, h2⟩ | ⟨h1, h2⟩
        · obtain ⟨rfl, rfl⟩ := big c m f h1 rb
          obtain ⟨rfl, rfl⟩ := big c' m' f' h2 rb'
          exact ⟨rfl, rfl⟩
        · obtain ⟨rfl, rfl⟩ := low c m f h1 rb
          obtain ⟨rfl, rfl⟩ := low c' m' f' h2 rb'
          exact ⟨rfl, rfl⟩
theorem ScaleR.flags {a c r f : Int} (h : ScaleR a c r f) : 0 ≤ f ∧ f ≤ 16 := by
  unfold ScaleR at h
  split at h
  · split at h <;> omega
  · split at h
    · omega
    · exact h.flags
theorem ScaleR.range {a c r f : Int} (ha : U a) (h : ScaleR a c r f) : U r := by
  unfold ScaleR at h
  split at h
  · rw [h.1]; exact ⟨by decide, by decide⟩
  · split at h
    · rw [h.1]; exact ha
    · exact h.range.1
/-- THE PROGRAM's PRODUCT WITH A POWER OF TWO. -/
theorem more_Scale_ev {a : Int} (ha : U a) (n : Int) : ∃ r f, Ev (fun k => more_Scale.f k a n) (r, f) ∧ ScaleR a (mx (-10000) (mn n 10000)) r f := by
  unfold ScaleR
  have hk := word_Kind_ev ha
  rw [kind_mag] at hk
  by_cases h : isNan a = true
  · refine ⟨QNAN, _, ?_, by rw [if_pos h]; exact ⟨rfl, rfl⟩⟩
    unfold more_Scale.f
    refine Ev.bind hk (Ev.pos (kind_nan.mpr h) (Ev.bind (word_Signals_ev ha) ?_))
    cases hs : signals a
    · exact Ev.neg (by decide) (Ev.now _)
    · exact Ev.pos rfl (Ev.now _)
  · have n5 : ¬ kindOf (mag a) = 5 := fun hh => h (kind_nan.mp hh)
    have start : ∀ r : Int × Int, Ev (fun k => more_Scale.j0 k a n (decide (mag a = INF ∨ mag a = 0))) r → Ev (fun k => more_Scale.f k a n) r := by
      intro r hr
      unfold more_Scale.f
      refine Ev.bind hk (Ev.neg n5 ?_)
      by_cases i : mag a = INF
      · have k4 := kind_inf.mpr i
        rw [decide_eq_true (.inl i)] at hr
        refine Ev.pos k4 ?_
        first | exact hr | (rw [k4]; exact hr)
      · refine Ev.neg (fun hh => i (kind_inf.mp hh)) ?_
        have e : decide (mag a = INF ∨ mag a = 0) = (kindOf (mag a) == 1) := by
          rw [Bool.eq_iff_iff]; simp [i, kind_zero]
        rw [e] at hr
        exact hr
    by_cases c : mag a = INF ∨ mag a = 0
    · refine ⟨a, 0, start _ (Ev.succ ?_), by rw [if_neg h, if_pos c]; exact ⟨rfl, rfl⟩⟩
      simp only [more_Scale.j0]
      exact Ev.pos (decide_eq_true c) (Ev.now _)
    · rw [decide_eq_false c] at start
      have fa : fin a := fin_of (by simpa using h) (fun hh => c (.inl hh))
      have m0' : 0 < mag a := by have := (mag_lt (a := a)).1; omega
      have pa := word_Parts_ev ha m0' fa
      obtain ⟨e1, e2⟩ := fin_expo fa
      have m0 := mant_pos m0'
      have uM := mant_U a
      have emag : a % 9223372036854775808 = mag a := rfl
      rw [emag] at pa
      have hc : -10000 ≤ mx (-10000) (mn n 10000) ∧ mx (-10000) (mn n 10000) ≤ 10000 := by unfold mx mn; split <;> split <;> omega
      have eW : wv 0 (mant (mag a)) = mant (mag a) := by unfold wv; omega
      generalize hd : mx (-10000) (mn n 10000) = d at *
      obtain ⟨m, f, ev, rb⟩ := round_Round_ev (neg a) (h := 0) (l := mant (mag a)) (E := expo (mag a) + d) U_0 uM (by omega) (by omega) false (x := (mant (mag a) : Rat) * pw (expo (mag a) + d)) (by rw [eW]; exact m0) (fun _ => by rw [eW]) (fun h => by cases h)
      refine ⟨signed (neg a) m, f, start _ (Ev.succ ?_), ?_⟩
      · simp only [more_Scale.j0]
        refine Ev.neg (by decide) (Ev.bind pa (Ev.call (word_Neg_eq ha) ?_))
        rw [hd, neg_def]
        dsimp only
        rw [w64 (x := expo (mag a) + d) (by omega) (by omega)]
        exact Ev.bind ev (Ev.now _)
      · rw [if_neg h, if_neg c, val_scale]
        exact Rd.of_sgd _ m0 _ rb

theorem soft_nan_step {l : List Int} {i n f : Int} {s : Bool} {r : Int × Int × Bool} (h0 : 0 ≤ i) (h1 : i < n) (h2 : i < (l.length : Int)) (hn : n ≤ 1000) (hU : U (rd l i))
    (h : Ev (fun k => soft_nan.l0 k (if signals (rd l i) then 16 else f) (s || isNan (rd l i)) l n (i + 1)) r) : Ev (fun k => soft_nan.l0 k f s l n i) r := by
  refine Ev.succ ?_
  simp only [soft_nan.l0]
  rw [w64 (x := i + 1) (by omega) (by omega)]
  refine Ev.pos h1 (Ev.pos h0 (Ev.pos h2 (Ev.bind (word_Kind_ev hU) ?_)))
  rw [kind_mag]
  by_cases hk : kindOf (mag (rd l i)) = 5
  · refine Ev.pos hk (Ev.bind (word_Signals_ev hU) ?_)
    rw [kind_nan.mp hk] at h
    by_cases hs : signals (rd l i) = true
    · rw [if_pos hs] at h
      refine Ev.pos hs ?_
      rw [Bool.or_true] at h; exact h
    · rw [if_neg hs] at h
      refine Ev.neg hs ?_
      rw [Bool.or_true] at h; exact h
  · refine Ev.neg hk ?_
    have hn : isNan (rd l i) = false := by
      cases hc : isNan (rd l i)
      · rfl
      · exact absurd (kind_nan.mpr hc) hk
    have hs : signals (rd l i) = false := by
      cases hc : signals (rd l i)
      · rfl
      · have := signals_nan hc; rw [hn] at this; cases this
    rw [hn, hs] at h
    simpa using h
theorem soft_nan_end {l : List Int} {i n f : Int} {s : Bool} (h1 : ¬ i < n) : Ev (fun k => soft_nan.l0 k f s l n i) (QNAN, f, s) := by
  refine Ev.succ ?_
  simp only [soft_nan.l0]
  exact Ev.neg h1 (Ev.now _)
theorem soft_nan2 {a b : Int} (ha : U a) (hb : U b) : Ev (fun k => soft_nan.f k [a, b]) (QNAN, nanF a b, isNan a || isNan b) := by
  unfold soft_nan.f
  refine soft_nan_step (by decide) (by simp) (by simp) (by simp) ha ?_
  refine soft_nan_step (by decide) (by simp) (by simp) (by simp) hb ?_
  have e : (if signals (rd [a, b] (0 + 1)) then (16 : Int) else if signals (rd [a, b] 0) then 16 else 0) = nanF a b := by
    show (if signals b then (16 : Int) else if signals a then 16 else 0) = nanF a b
    unfold nanF
    cases signals a <;> cases signals b <;> rfl
  have e2 : (false || isNan (rd [a, b] 0) || isNan (rd [a, b] (0 + 1))) = (isNan a || isNan b) := by
    show (false || isNan a || isNan b) = _
    rw [Bool.false_or]
  rw [e, e2]
  exact soft_nan_end (by simp)


theorem add_nan {a b : Int} (ha : U a) (hb : U b) (h : (isNan a || isNan b) = true) : Ev (fun k => soft_Add.f k a b) (QNAN, nanF a b) := by
  unfold soft_Add.f
  refine Ev.bind (soft_nan2 ha hb) ?_
  exact Ev.pos h (Ev.now _)
theorem add_kinds {a b : Int} (ha : U a) (hb : U b) (h : (isNan a || isNan b) = false) {r : Int × Int}
    (hk : Ev (fun k => soft_Add.j0 k a b (kindOf (mag a)) (kindOf (mag b)) (if kindOf (mag a) = 4 then (if kindOf (mag b) = 4 then a != b else false) else false)) r) : Ev (fun k => soft_Add.f k a b) r := by
  unfold soft_Add.f
  refine Ev.bind (soft_nan2 ha hb) (Ev.neg (by simp only [h]; decide) (Ev.bind (word_Kind_ev ha) (Ev.bind (word_Kind_ev hb) ?_)))
  rw [kind_mag, kind_mag]
  by_cases c1 : kindOf (mag a) = 4
  · by_cases c2 : kindOf (mag b) = 4
    · rw [if_pos c1, if_pos c2] at hk; exact Ev.pos c1 (Ev.pos c2 hk)
    · rw [if_pos c1, if_neg c2] at hk; exact Ev.pos c1 (Ev.neg c2 hk)
  · rw [if_neg c1] at hk; exact Ev.neg c1 hk
theorem add_inf2 {a b : Int} (ha : U a) (hb : U b) (h1 : mag a = INF) (h2 : mag b = INF) (h3 : a ≠ b) : Ev (fun k => soft_Add.f k a b) (QNAN, 16) := by
  refine add_kinds ha hb (by unfold isNan; rw [h1, h2]; decide) ?_
  rw [if_pos (kind_inf.mpr h1), if_pos (kind_inf.mpr h2)]
  refine Ev.succ ?_
  simp only [soft_Add.j0]
  exact Ev.pos (by simp [h3]) (Ev.now _)
theorem add_infa {a b : Int} (ha : U a) (hb : U b) (h1 : mag a = INF) (h2 : isNan b = false) (h3 : a = b ∨ mag b ≠ INF) : Ev (fun k => soft_Add.f k a b) (a, 0) := by
  refine add_kinds ha hb (by rw [h2]; unfold isNan; rw [h1]; decide) ?_
  refine Ev.succ ?_
  simp only [soft_Add.j0]
  refine Ev.neg ?_ (Ev.pos (kind_inf.mpr h1) (Ev.now _))
  rw [if_pos (kind_inf.mpr h1)]
  rcases h3 with h3 | h3
  · subst h3; simp
  · rw [if_neg (fun h => h3 (kind_inf.mp h))]; decide
theorem add_infb {a b : Int} (ha : U a) (hb : U b) (h1 : fin a) (h2 : mag b = INF) : Ev (fun k => soft_Add.f k a b) (b, 0) := by
  have hn : kindOf (mag a) ≠ 4 := fun h => by have := kind_inf.mp h; unfold fin at h1; omega
  refine add_kinds ha hb (by rw [fin_nan h1]; unfold isNan; rw [h2]; decide) ?_
  refine Ev.succ ?_
  simp only [soft_Add.j0]
  rw [if_neg hn]
  exact Ev.neg (by decide) (Ev.neg hn (Ev.pos (kind_inf.mpr h2) (Ev.now _)))

theorem wide_Sub_eq {h l h' l' : Int} (hh : U h) (hl : U l) (hh' : U h') (hl' : U l') (hle : wv h' l' ≤ wv h l) : ∃ a b, wide_Wide_Sub.f h l h' l' = some (a, b, false) ∧ U a ∧ U b ∧ wv a b = wv h l - wv h' l' := by
  obtain ⟨x0, x1⟩ := hh; obtain ⟨x2, x3⟩ := hl; obtain ⟨x4, x5⟩ := hh'; obtain ⟨x6, x7⟩ := hl'
  unfold wide_Wide_Sub.f bits_Sub64.f
  rw [if_pos ⟨x2, x6, x7, by decide, by decide⟩]
  simp only [Option.bind_some]
  unfold wv at hle
  by_cases c : l < l' + 0
  · rw [if_pos c, if_pos ⟨x0, x4, x5, by decide, by decide⟩]
    simp only [Option.bind_some]
    refine ⟨_, _, congrArg some (Prod.ext rfl (Prod.ext rfl ?_)), ⟨by omega, by omega⟩, ⟨by omega, by omega⟩, ?_⟩
    · rw [if_neg (by omega)]; rfl
    · unfold wv; omega
  · rw [if_neg c, if_pos ⟨x0, x4, x5, by decide, by decide⟩]
    simp only [Option.bind_some]
    refine ⟨_, _, congrArg some (Prod.ext rfl (Prod.ext rfl ?_)), ⟨by omega, by omega⟩, ⟨by omega, by omega⟩, ?_⟩
    · rw [if_neg (by omega)]; rfl
    · unfold wv; omega
theorem add_j2 {a b : Int} (ha : U a) (hb : U b) (fa : fin a) (fb : fin b) (za : 0 < mag a) (zb : 0 < mag b) (hle : mag b ≤ mag a) :
    ∃ r f, Ev (fun k => soft_Add.j2 k a b) (r, f) ∧ Rd (val a + val b) (neg a && neg b) r f := by
  have pa := word_Parts_ev ha za fa
  have pb := word_Parts_ev hb zb fb
  obtain ⟨ea1, ea2⟩ := fin_expo fa
  obtain ⟨eb1, eb2⟩ := fin_expo fb
  have hex : expo (mag b) ≤ expo (mag a) := expo_mono (by omega) hle
  have ma := mant_pos za
  have ma' := mant_lt (m := mag a)
  have mga := mant_ge (m := mag a) (by omega)
  have mb := mant_pos zb
  have mb' := mant_lt (m := mag b)
  have va : vm (mag a) = (mant (mag a) : Rat) * pw (expo (mag a)) := rfl
  have vb : vm (mag b) = (mant (mag b) : Rat) * pw (expo (mag b)) := rfl
  have hvle : vm (mag b) ≤ vm (mag a) := vm_mono (by omega) hle
  generalize hM : mant (mag a) = M at *
  generalize hN : mant (mag b) = N at *
  generalize hE : expo (mag a) = E at *
  generalize hG : expo (mag b) = G at *
  have emag : ∀ c : Int, c % 9223372036854775808 = mag c := fun _ => rfl
  rw [emag, hM, hE] at pa
  rw [emag, hN, hG] at pb
  have UM : U M := ⟨by omega, by omega⟩
  have UN : U N := ⟨by omega, by omega⟩
  obtain ⟨qh, ql, evq, uq1, uq2, eq⟩ := wide_Right_ev (h := N) (l := 0) (n := E - G) UN U_0 (by omega)
  have wN : wv N 0 = N * 18446744073709551616 := by unfold wv; omega
  have wM : wv M 0 = M * 18446744073709551616 := by unfold wv; omega
  rw [wN] at evq eq
  have hP := p2_pos (E - G)
  have dm := Int.mul_ediv_add_emod (N * 18446744073709551616) (p2 (E - G))
  have r0 := Int.emod_nonneg (N * 18446744073709551616) (Int.ne_of_gt hP)
  have r1 := Int.emod_lt_of_pos (N * 18446744073709551616) hP
  have q0 : 0 ≤ N * 18446744073709551616 / p2 (E - G) := Int.ediv_nonneg (by omega) (Int.le_of_lt hP)
  have q1 : N * 18446744073709551616 / p2 (E - G) ≤ N * 18446744073709551616 := Int.ediv_le_self _ (by omega)
  generalize hQ : N * 18446744073709551616 / p2 (E - G) = Q at *
  generalize hR : N * 18446744073709551616 % p2 (E - G) = R at *
  -- in units of 2^(E - 64)
  have hu := pw_pos (E - 64)
  have uE : pw E = (18446744073709551616 : Int) * pw (E - 64) := by
    rw [show (18446744073709551616 : Int) = p2 64 from rfl, ← pw_p2 (by decide), ← pw_add]; congr 1; omega
  have uG : (N : Rat) * pw G * (p2 (E - G) : Rat) = (N * 18446744073709551616 : Int) * pw (E - 64) := by
    have : pw G * (p2 (E - G) : Rat) = pw E := by rw [← pw_p2 (by omega), ← pw_add]; congr 1; omega
    rw [Rat.mul_assoc, this, uE]; push_cast; grind
  have hPr : (0 : Rat) < (p2 (E - G) : Rat) := by exact_mod_cast hP
  -- the lesser one lies between Q and Q + 1
  have hlow0 : R = 0 → (N : Rat) * pw G = (Q : Rat) * pw (E - 64) := by
    intro h
    have h1 : (N * 18446744073709551616 : Int) = p2 (E - G) * Q := by omega
    rw [h1] at uG
    have h2 : (p2 (E - G) : Rat) * ((N : Rat) * pw G) = (p2 (E - G) : Rat) * ((Q : Rat) * pw (E - 64)) := by push_cast at uG; grind
    exact Rat.le_antisymm (Rat.le_of_mul_le_mul_left (by rw [h2]; exact Rat.le_refl) hPr) (Rat.le_of_mul_le_mul_left (by rw [h2]; exact Rat.le_refl) hPr)
  have hlow1 : R ≠ 0 → (Q : Rat) * pw (E - 64) < (N : Rat) * pw G ∧ (N : Rat) * pw G < (Q + 1 : Int) * pw (E - 64) := by
    intro h
    constructor
    · refine Rat.lt_of_mul_lt_mul_left (c := (p2 (E - G) : Rat)) ?_ (Rat.le_of_lt hPr)
      have h1 : (p2 (E - G) * Q : Int) * pw (E - 64) < (N * 18446744073709551616 : Int) * pw (E - 64) := mul_pw_lt.mpr (by omega)
      rw [← uG] at h1
      push_cast at h1; grind
    · refine Rat.lt_of_mul_lt_mul_left (c := (p2 (E - G) : Rat)) ?_ (Rat.le_of_lt hPr)
      have e2 : p2 (E - G) * (Q + 1) = p2 (E - G) * Q + p2 (E - G) := by grind
      have h1 : (N * 18446744073709551616 : Int) * pw (E - 64) < (p2 (E - G) * (Q + 1) : Int) * pw (E - 64) := mul_pw_lt.mpr (by omega)
      rw [← uG] at h1
      push_cast at h1 ⊢; grind
  have hbig : R ≠ 0 → 4503599627370496 ≤ M ∧ Q < 9007199254740992 := by
    intro h
    have hlt : 64 < E - G := by
      refine Decidable.byContradiction fun hc => h ?_
      have : (18446744073709551616 : Int) = p2 (64 - (E - G)) * p2 (E - G) := by rw [← p2_64, ← p2_add (by omega) (by omega)]; congr 1; omega
      rw [← hR, this, ← Int.mul_assoc]
      exact Int.mul_emod_left _ _
    refine ⟨by omega, ?_⟩
    rw [← hQ]
    apply Int.ediv_lt_of_lt_mul hP
    have h64 : 18446744073709551616 ≤ p2 (E - G) := by rw [← p2_64]; exact p2_le (by omega)
    have := Int.mul_le_mul_of_nonneg_left h64 (show (0 : Int) ≤ 9007199254740992 by decide)
    omega
  refine Exists.elim (?_ : ∃ rf : Int × Int, Ev (fun k => soft_Add.j2 k a b) rf ∧ Rd (val a + val b) (neg a && neg b) rf.1 rf.2) (fun rf h => ⟨rf.1, rf.2, h⟩)
  have aM : (M : Rat) * pw E = (M * 18446744073709551616 : Int) * pw (E - 64) := by rw [uE]; push_cast; grind
  -- the head of j2
  have start : ∀ rf : Int × Int, Ev (fun k => if (neg a == neg b) = true then ((wide_Wide_Add.f M 0 qh ql).bind fun bt189 => ((word_Neg.f a).bind fun t193 => ((round_Round.f k t193 bt189.1 bt189.2.1 (E - 64) (decide (R ≠ 0))).bind fun bt194 => (some (bt194.1, bt194.2)))))
      else (if decide (R ≠ 0) = true then ((wide_Wide_Add.f qh ql 0 1).bind fun bt196 => (soft_Add.j3 k a E (decide (R ≠ 0)) M 0 bt196.1 bt196.2.1)) else (soft_Add.j3 k a E (decide (R ≠ 0)) M 0 qh ql))) rf → Ev (fun k => soft_Add.j2 k a b) rf := by
    intro rf h
    refine Ev.succ ?_
    simp only [soft_Add.j2]
    refine Ev.bind pa (Ev.bind pb (Ev.call (wl64 (by omega) (by omega)) (Ev.call (wl64 (by omega) (by omega)) ?_)))
    dsimp only
    rw [w64 (x := E - G) (by omega) (by omega), w64 (x := E - 64) (by omega) (by omega)]
    refine Ev.bind evq (Ev.call (word_Neg_eq ha) (Ev.call (word_Neg_eq hb) ?_))
    refine Ev.same (fun k => ?_) h
    by_cases c : R ≠ 0
    · rw [decide_eq_true c]; rfl
    · rw [decide_eq_false c]; rfl
  by_cases hs : neg a = neg b
  · -- like signs
    obtain ⟨sh, sl, es, us1, us2, ev⟩ := wide_Add_eq UM U_0 uq1 uq2
    rw [wM, eq] at ev es
    have evs : wv sh sl = M * 18446744073709551616 + Q := by rw [ev]; exact Int.emod_eq_of_lt (by omega) (by omega)
    have hx : rabs (val a + val b) = vm (mag a) + vm (mag b) := by
      have := vm_pos za; have := vm_pos zb
      rw [val_eq a, val_eq b, ← hs]
      unfold rabs
      cases neg a <;> simp <;> grind
    have hne : val a + val b ≠ 0 := by
      have := vm_pos za; have := vm_pos zb
      intro h
      rw [h] at hx
      have : rabs 0 = 0 := rfl
      grind
    have hsg : decide (val a + val b < 0) = neg a := by
      have := vm_pos za; have := vm_pos zb
      rw [val_eq a, val_eq b, ← hs]
      cases neg a <;> simp <;> grind
    have hblen : 54 ≤ blen (M * 18446744073709551616 + Q) := by
      obtain ⟨b1, b2, b3⟩ := blen_pos (x := M * 18446744073709551616 + Q) (by omega)
      refine Decidable.byContradiction fun hc => ?_
      have := p2_le (show blen (M * 18446744073709551616 + Q) ≤ 53 from by omega)
      have e53 : p2 53 = 9007199254740992 := by decide
      omega
    obtain ⟨m, f, er, rb⟩ := round_Round_ev (neg a) us1 us2 (E := E - 64) (by omega) (by omega) (decide (R ≠ 0)) (x := vm (mag a) + vm (mag b)) (by omega)
      (by intro h; have h : R = 0 := by simpa using h
          rw [va, vb, hlow0 h, aM, evs]; push_cast; grind)
      (by intro h; have h : R ≠ 0 := by simpa using h
          refine ⟨?_, by rw [evs]; exact hblen⟩
          obtain ⟨l1, l2⟩ := hlow1 h
          rw [va, vb, aM, evs]
          push_cast at l2 ⊢
          constructor <;> grind)
    refine ⟨(signed (neg a) m, f), start _ (Ev.pos (by simp [hs]) (Ev.call es (Ev.call (word_Neg_eq ha) ?_))), ⟨fun h => absurd h hne, fun _ => ⟨m, by rw [hx]; exact rb, by rw [hsg]⟩⟩⟩
    dsimp only
    exact Ev.bind er (Ev.now _)
  · -- unlike signs
    have hz : (neg a && neg b) = false := by revert hs; cases neg a <;> cases neg b <;> simp
    have hx : rabs (val a + val b) = vm (mag a) - vm (mag b) := by
      have := vm_pos za; have := vm_pos zb
      rw [val_eq a, val_eq b]
      unfold rabs
      revert hs
      cases neg a <;> cases neg b <;> simp <;> grind
    have hsg : val a + val b ≠ 0 → decide (val a + val b < 0) = neg a := by
      have := vm_pos za; have := vm_pos zb
      rw [val_eq a, val_eq b]
      revert hs
      cases neg a <;> cases neg b <;> simp <;> grind
    have tail : ∀ (sh sl : Int), U sh → U sl → ∀ low : Bool, low = decide (R ≠ 0) → wv sh sl = M * 18446744073709551616 - (if R = 0 then Q else Q + 1) → ¬ (wv sh sl = 0 ∧ low = false) →
        ∃ rf : Int × Int, Ev (fun k => soft_Add.j4 k a E low false sh sl) rf ∧ Rd (val a + val b) (neg a && neg b) rf.1 rf.2 := by
      intro sh sl us1 us2 low hl evs hnz
      have hpos : 0 < wv sh sl := by
        have := (wv_range us1 us2).1
        by_cases c : R = 0
        · have hl' : low = false := by rw [hl]; simp [c]
          have : wv sh sl ≠ 0 := fun h => hnz ⟨h, hl'⟩
          omega
        · obtain ⟨b1, b2⟩ := hbig c
          rw [if_neg c] at evs
          omega
      have hblen : R ≠ 0 → 54 ≤ blen (wv sh sl) := by
        intro c
        obtain ⟨b1, b2⟩ := hbig c
        rw [if_neg c] at evs
        obtain ⟨c1, c2, c3⟩ := blen_pos hpos
        refine Decidable.byContradiction fun hc => ?_
        have := p2_le (show blen (wv sh sl) ≤ 53 from by omega)
        have e53 : p2 53 = 9007199254740992 := by decide
        omega
      obtain ⟨m, f, er, rb⟩ := round_Round_ev (neg a) us1 us2 (E := E - 64) (by omega) (by omega) low (x := vm (mag a) - vm (mag b)) hpos
        (by intro h; have h : R = 0 := by rw [hl] at h; simpa using h
            rw [if_pos h] at evs
            rw [va, vb, hlow0 h, aM, evs]; push_cast; grind)
        (by intro h; have h : R ≠ 0 := by rw [hl] at h; simpa using h
            refine ⟨?_, hblen h⟩
            rw [if_neg h] at evs
            obtain ⟨l1, l2⟩ := hlow1 h
            rw [va, vb, aM, evs]
            push_cast at l2 ⊢
            constructor <;> grind)
      have hxne : val a + val b ≠ 0 := by
        intro h
        have h1 : rabs (val a + val b) = 0 := by rw [h]; rfl
        obtain ⟨q, n, hq, _⟩ := rb.ex
        have := hq.pos
        rw [hx] at h1
        grind
      refine ⟨(signed (neg a) m, f), Ev.succ ?_, ⟨fun h => absurd h hxne, fun _ => ⟨m, by rw [hx]; exact rb, by rw [hsg hxne]⟩⟩⟩
      simp only [soft_Add.j4]
      refine Ev.neg (by decide) (Ev.call (word_Neg_eq ha) ?_)
      rw [w64 (x := E - 64) (by omega) (by omega)]
      exact Ev.bind er (Ev.now _)
    -- the lesser one isn't greater
    have hQM : (if R = 0 then Q else Q + 1) ≤ M * 18446744073709551616 := by
      by_cases c : R = 0
      · rw [if_pos c]
        have : (Q : Rat) * pw (E - 64) ≤ (M * 18446744073709551616 : Int) * pw (E - 64) := by rw [← hlow0 c, ← aM, ← va, ← vb]; exact hvle
        exact mul_pw_le.mp this
      · rw [if_neg c]
        have := hbig c
        omega
    have j3 : ∀ (qh' ql' : Int), U qh' → U ql' → wv qh' ql' = (if R = 0 then Q else Q + 1) →
        ∃ rf : Int × Int, Ev (fun k => soft_Add.j3 k a E (decide (R ≠ 0)) M 0 qh' ql') rf ∧ Rd (val a + val b) (neg a && neg b) rf.1 rf.2 := by
      intro qh' ql' u1 u2 e
      obtain ⟨sh, sl, es, us1, us2, evs⟩ := wide_Sub_eq UM U_0 u1 u2 (by rw [wM, e]; exact hQM)
      rw [wM, e] at evs
      by_cases hz0 : wv sh sl = 0
      · by_cases c : R = 0
        · -- nothing is left
          refine ⟨(0, 0), Ev.succ ?_, ⟨fun _ => ⟨by rw [hz]; rfl, rfl⟩, fun h => absurd ?_ h⟩⟩
          · simp only [soft_Add.j3]
            refine Ev.call es (Ev.call (wide_Zero_eq us1 us2) ?_)
            rw [decide_eq_true hz0]
            refine Ev.pos rfl (Ev.succ ?_)
            simp only [soft_Add.j4]
            exact Ev.pos (by simp [c]) (Ev.now _)
          · have h1 : rabs (val a + val b) = 0 := by
              rw [hx, va, vb, hlow0 c, aM]
              rw [if_pos c, hz0] at evs
              have : M * 18446744073709551616 = Q := by omega
              rw [this]; grind
            unfold rabs at h1; grind
        · obtain ⟨rf, ev, rd⟩ := tail sh sl us1 us2 _ rfl evs (by simp [c])
          refine ⟨rf, Ev.succ ?_, rd⟩
          simp only [soft_Add.j3]
          refine Ev.call es (Ev.call (wide_Zero_eq us1 us2) ?_)
          rw [decide_eq_true hz0]
          refine Ev.pos rfl ?_
          rw [show (!decide (R ≠ 0)) = false from by simp [c]]
          exact ev
      · obtain ⟨rf, ev, rd⟩ := tail sh sl us1 us2 _ rfl evs (fun h => hz0 h.1)
        refine ⟨rf, Ev.succ ?_, rd⟩
        simp only [soft_Add.j3]
        refine Ev.call es (Ev.call (wide_Zero_eq us1 us2) ?_)
        rw [decide_eq_false hz0]
        exact Ev.neg (by decide) ev
    by_cases c : R = 0
    · obtain ⟨rf, ev, rd⟩ := j3 qh ql uq1 uq2 (by rw [if_pos c]; exact eq)
      refine ⟨rf, start _ (Ev.neg (by simp [hs]) (Ev.neg (by simp [c]) ev)), rd⟩
    · obtain ⟨ah, al, ea, ua1, ua2, eva⟩ := wide_Add_eq uq1 uq2 U_0 U_1
      have e1 : wv 0 1 = 1 := by unfold wv; omega
      rw [eq, e1, Int.emod_eq_of_lt (by omega) (by omega)] at eva
      obtain ⟨rf, ev, rd⟩ := j3 ah al ua1 ua2 (by rw [if_neg c]; exact eva)
      refine ⟨rf, start _ (Ev.neg (by simp [hs]) (Ev.pos (by simp [c]) (Ev.call ea ?_))), rd⟩
      exact ev

theorem zero_two {a : Int} (ha : U a) (h : mag a = 0) : a = if neg a then 9223372036854775808 else 0 := by
  obtain ⟨h0, h1⟩ := ha
  unfold mag at h
  unfold neg
  by_cases c : 9223372036854775808 ≤ a
  · rw [decide_eq_true c]; simp; omega
  · rw [decide_eq_false c]; simp; omega
/-- ADD: of two numbers. -/
theorem add_fin {a b : Int} (ha : U a) (hb : U b) (fa : fin a) (fb : fin b) : ∃ r f, Ev (fun k => soft_Add.f k a b) (r, f) ∧ Rd (val a + val b) (neg a && neg b) r f := by
  have ka : kindOf (mag a) ≠ 4 := fun h => by have := kind_inf.mp h; unfold fin at fa; omega
  have kb : kindOf (mag b) ≠ 4 := fun h => by have := kind_inf.mp h; unfold fin at fb; omega
  have step : ∀ rf : Int × Int, Ev (fun k => soft_Add.j1 k a b (kindOf (mag a)) (kindOf (mag b)) (if kindOf (mag a) = 1 then (kindOf (mag b) == 1) else false)) rf → Ev (fun k => soft_Add.f k a b) rf := by
    intro rf h
    refine add_kinds ha hb (by rw [fin_nan fa, fin_nan fb]; rfl) ?_
    rw [if_neg ka]
    refine Ev.succ ?_
    simp only [soft_Add.j0]
    refine Ev.neg (by decide) (Ev.neg ka (Ev.neg kb ?_))
    by_cases c : kindOf (mag a) = 1
    · rw [if_pos c] at h; exact Ev.pos c h
    · rw [if_neg c] at h; exact Ev.neg c h
  by_cases za : mag a = 0
  · have k1 := kind_zero.mpr za
    by_cases zb : mag b = 0
    · have k2 := kind_zero.mpr zb
      refine ⟨bits .and .u64 a b, 0, step _ (Ev.succ ?_), ?_⟩
      · simp only [soft_Add.j1]
        exact Ev.pos (by rw [if_pos k1, k2]; rfl) (Ev.now _)
      · have h0 : val a + val b = 0 := by rw [val_zero_iff.mpr za, val_zero_iff.mpr zb]; grind
        refine ⟨fun _ => ⟨?_, rfl⟩, fun h => absurd h0 h⟩
        have e1 := zero_two ha za
        have e2 := zero_two hb zb
        rw [e1, e2]
        cases neg a <;> cases neg b <;> decide
    · have k2 : ¬ kindOf (mag b) = 1 := fun h => zb (kind_zero.mp h)
      refine ⟨b, 0, step _ (Ev.succ ?_), ?_⟩
      · simp only [soft_Add.j1]
        exact Ev.neg (by rw [if_pos k1]; simpa using k2) (Ev.pos k1 (Ev.now _))
      · rw [val_zero_iff.mpr za, show (0 : Rat) + val b = val b from by grind]
        exact Rd.self hb fb zb _
  · have k1 : ¬ kindOf (mag a) = 1 := fun h => za (kind_zero.mp h)
    by_cases zb : mag b = 0
    · have k2 := kind_zero.mpr zb
      refine ⟨a, 0, step _ (Ev.succ ?_), ?_⟩
      · simp only [soft_Add.j1]
        exact Ev.neg (by rw [if_neg k1]; decide) (Ev.neg k1 (Ev.pos k2 (Ev.now _)))
      · rw [val_zero_iff.mpr zb, show val a + (0 : Rat) = val a from by grind]
        exact Rd.self ha fa za _
    · have k2 : ¬ kindOf (mag b) = 1 := fun h => zb (kind_zero.mp h)
      have m0 := (mag_lt (a := a)).1
      have m1 := (mag_lt (a := b)).1
      by_cases hlt : mag a < mag b
      · obtain ⟨r, f, ev, rd⟩ := add_j2 hb ha fb fa (by omega) (by omega) (by omega)
        refine ⟨r, f, step _ (Ev.succ ?_), by rw [show val a + val b = val b + val a from by grind, Bool.and_comm]; exact rd⟩
        simp only [soft_Add.j1]
        exact Ev.neg (by rw [if_neg k1]; decide) (Ev.neg k1 (Ev.neg k2 (Ev.call (word_Abs_eq ha) (Ev.call (word_Abs_eq hb) (Ev.pos hlt ev)))))
      · obtain ⟨r, f, ev, rd⟩ := add_j2 ha hb fa fb (by omega) (by omega) (by omega)
        refine ⟨r, f, step _ (Ev.succ ?_), rd⟩
        simp only [soft_Add.j1]
        exact Ev.neg (by rw [if_neg k1]; decide) (Ev.neg k1 (Ev.neg k2 (Ev.call (word_Abs_eq ha) (Ev.call (word_Abs_eq hb) (Ev.neg hlt ev)))))

def AddR (a b r f : Int) : Prop :=
  if (isNan a || isNan b) = true then r = QNAN ∧ f = nanF a b
  else if mag a = INF then (if mag b = INF ∧ a ≠ b then r = QNAN ∧ f = 16 else r = a ∧ f = 0)
  else if mag b = INF then r = b ∧ f = 0
  else Rd (val a + val b) (neg a && neg b) r f
theorem add_ev {a b : Int} (ha : U a) (hb : U b) : ∃ r f, Ev (fun k => soft_Add.f k a b) (r, f) ∧ AddR a b r f := by
  unfold AddR
  by_cases h : (isNan a || isNan b) = true
  · exact ⟨_, _, add_nan ha hb h, by rw [if_pos h]; exact ⟨rfl, rfl⟩⟩
  · obtain ⟨h0, na, nb⟩ := nan_or h
    by_cases ia : mag a = INF
    · by_cases ib : mag b = INF ∧ a ≠ b
      · exact ⟨_, _, add_inf2 ha hb ia ib.1 ib.2, by rw [if_neg h, if_pos ia, if_pos ib]; exact ⟨rfl, rfl⟩⟩
      · refine ⟨_, _, add_infa ha hb ia nb ?_, by rw [if_neg h, if_pos ia, if_neg ib]; exact ⟨rfl, rfl⟩⟩
        by_cases c : a = b
        · exact .inl c
        · exact .inr (fun hh => ib ⟨hh, c⟩)
    · by_cases ib : mag b = INF
      · exact ⟨_, _, add_infb ha hb (fin_of na ia) ib, by rw [if_neg h, if_neg ia, if_pos ib]; exact ⟨rfl, rfl⟩⟩
      · obtain ⟨r, f, ev, rd⟩ := add_fin ha hb (fin_of na ia) (fin_of nb ib)
        exact ⟨r, f, ev, by rw [if_neg h, if_neg ia, if_neg ib]; exact rd⟩
theorem AddR.unique {a b r f r' f' : Int} (h : AddR a b r f) (h' : AddR a b r' f') : r = r' ∧ f = f' := by
  unfold AddR at h h'
  by_cases c1 : (isNan a || isNan b) = true
  · rw [if_pos c1] at h h'; omega
  · rw [if_neg c1] at h h'
    by_cases c2 : mag a = INF
    · rw [if_pos c2] at h h'
      by_cases c3 : mag b = INF ∧ a ≠ b
      · rw [if_pos c3] at h h'; omega
      · rw [if_neg c3] at h h'; omega
    · rw [if_neg c2] at h h'
      by_cases c3 : mag b = INF
      · rw [if_pos c3] at h h'; omega
      · rw [if_neg c3] at h h'; exact h.unique h'
theorem AddR.fin {a b r f : Int} (fa : fin a) (fb : fin b) : AddR a b r f ↔ Rd (val a + val b) (neg a && neg b) r f := by
  unfold AddR; rw [fin_nan fa, fin_nan fb, if_neg (by decide), if_neg (not_inf fa), if_neg (not_inf fb)]
theorem AddR.flags {a b r f : Int} (h : AddR a b r f) : 0 ≤ f ∧ f ≤ 16 := by
  have := nanF_le a b
  unfold AddR at h
  split at h
  · omega
  · split at h
    · split at h <;> omega
    · split at h
      · omega
      · exact h.flags
theorem AddR.range {a b r f : Int} (ha : U a) (hb : U b) (h : AddR a b r f) : U r := by
  unfold AddR at h
  have q : U QNAN := by unfold QNAN U; decide
  split at h
  · rw [h.1]; exact q
  · split at h
    · split at h
      · rw [h.1]; exact q
      · rw [h.1]; exact ha
    · split at h
      · rw [h.1]; exact hb
      · exact h.range.1
end Gim
namespace Gim
open Go Go.RowKit Go.Proofs.YtlhpejbmjbcmaaaDoorW.PrintWords Go.Proofs.YtlhpejbmjbcmaaaDoorW.PrintLast Go.Proofs.YtlhpejbmjbcmaaaDoorW.PrintMore
set_option linter.unusedVariables false

/-- What is answered from some number of rounds on, if anything is. -/
noncomputable def resOf {α : Type} [Inhabited α] (g : Nat → Option α) : α := open Classical in if h : ∃ r, Ev g r then Classical.choose h else default
theorem Ev.resE {α : Type} [Inhabited α] {g : Nat → Option α} {r : α} (h : Ev g r) : Ev g (resOf g) := by
  unfold resOf
  rw [dif_pos ⟨r, h⟩]
  exact Classical.choose_spec (p := fun r => Ev g r) ⟨r, h⟩
end Gim
namespace Gim
open Go Go.RowKit Go.Proofs.YtlhpejbmjbcmaaaDoorW.PrintWords Go.Proofs.YtlhpejbmjbcmaaaDoorW.PrintLast Go.Proofs.YtlhpejbmjbcmaaaDoorW.PrintMore Go.Proofs.YtlhpejbmjbcmaaaDoor.F
set_option linter.unusedVariables false

/-- Sizes that can't be. -/
def badSize (r c s : Int) : Prop := r < 0 ∨ 4096 < r ∨ c < 0 ∨ 4096 < c ∨ s < c ∨ 1099511627776 < s
instance (r c s : Int) : Decidable (badSize r c s) := by unfold badSize; exact inferInstance
def isMat (r c s : Int) (d : List Int) : Prop := ¬ badSize r c s ∧ (r = 0 ∨ c = 0 ∨ (r - 1) * s + c ≤ (d.length : Int))
instance (r c s : Int) (d : List Int) : Decidable (isMat r c s d) := by unfold isMat; exact inferInstance

theorem check_j0_true (r c s : Int) (d : List Int) : Ev (fun k => mat_Matrix_Check.j0 k true r c s d) 4 := by
  refine Ev.succ ?_
  simp only [mat_Matrix_Check.j0]
  exact Ev.pos trivial (Ev.now _)
theorem check_j1 {r c s : Int} (h : ¬ badSize r c s) (d : List Int) (b : Bool) (hb : b = decide (r = 0 ∨ c = 0)) :
    Ev (fun k => mat_Matrix_Check.j1 k b r c s d) (if isMat r c s d then 0 else 4) := by
  unfold badSize at h
  refine Ev.succ ?_
  simp only [mat_Matrix_Check.j1]
  by_cases h0 : r = 0 ∨ c = 0
  · rw [decide_eq_true h0] at hb
    refine Ev.pos hb ?_
    rw [if_pos (show isMat r c s d from ⟨h, by omega⟩)]
    exact Ev.now _
  · rw [decide_eq_false h0] at hb
    refine Ev.neg (by rw [hb]; decide) ?_
    obtain ⟨b0, b1⟩ := mul_bound (a := r - 1) (b := s) (m := 4096) (n := 1099511627776) (by omega) (by omega) (by omega) (by omega)
    rw [w64 (x := r - 1) (by omega) (by omega), w64 (x := (r - 1) * s) (by omega) (by omega), w64 (by omega) (by omega)]
    by_cases h1 : (r - 1) * s + c > (d.length : Int)
    · refine Ev.pos h1 ?_
      rw [if_neg (show ¬ isMat r c s d from fun hh => by have := hh.2; omega)]
      exact Ev.now _
    · refine Ev.neg h1 ?_
      rw [if_pos (show isMat r c s d from ⟨h, by omega⟩)]
      exact Ev.now _
theorem check_j0 {r c s : Int} (h : ¬ badSize r c s) (d : List Int) : Ev (fun k => mat_Matrix_Check.j0 k false r c s d) (if isMat r c s d then 0 else 4) := by
  refine Ev.succ ?_
  simp only [mat_Matrix_Check.j0]
  refine Ev.neg (by decide) ?_
  by_cases h0 : r = 0
  · exact Ev.pos h0 (check_j1 h d true (by rw [decide_eq_true (.inl h0)]))
  · refine Ev.neg h0 (check_j1 h d _ ?_)
    rw [Bool.eq_iff_iff, beq_iff_eq, decide_eq_true_eq]; omega
/-- Check: 0 of a matrix, 4 of all else. -/
theorem check_ev (r c s : Int) (d : List Int) : Ev (fun k => mat_Matrix_Check.f k r c s d) (if isMat r c s d then 0 else 4) := by
  have hbad : badSize r c s → Ev (fun k => mat_Matrix_Check.j0 k true r c s d) (if isMat r c s d then 0 else 4) := by
    intro hb
    rw [if_neg (fun hh => hh.1 hb)]
    exact check_j0_true r c s d
  unfold mat_Matrix_Check.f
  unfold badSize at hbad
  by_cases h1 : r < 0
  · exact Ev.pos h1 (hbad (by omega))
  · refine Ev.neg h1 ?_
    by_cases h2 : r > 4096
    · exact Ev.pos h2 (hbad (by omega))
    · refine Ev.neg h2 ?_
      by_cases h3 : c < 0
      · exact Ev.pos h3 (hbad (by omega))
      · refine Ev.neg h3 ?_
        by_cases h4 : c > 4096
        · exact Ev.pos h4 (hbad (by omega))
        · refine Ev.neg h4 ?_
          by_cases h5 : s < c
          · exact Ev.pos h5 (hbad (by omega))
          · refine Ev.neg h5 ?_
            by_cases h6 : s > 1099511627776
            · rw [decide_eq_true h6]; exact hbad (by omega)
            · rw [decide_eq_false h6]
              exact check_j0 (by unfold badSize; omega) d
theorem isMat_dense {R C : Nat} (hR : R ≤ 4096) (hC : C ≤ 4096) {d : List Int} (hd : d.length = R * C) : isMat R C C d := by
  refine ⟨by unfold badSize; omega, ?_⟩
  by_cases h0 : R = 0
  · left; omega
  · right; right
    obtain ⟨q, rfl⟩ : ∃ q, R = q + 1 := ⟨R - 1, by omega⟩
    rw [hd]
    have e : ((q + 1 : Nat) : Int) - 1 = (q : Int) := by omega
    rw [e, ← Int.natCast_mul, ← Int.natCast_add, ← row_end]; omega
theorem check_dense {R C : Nat} (hR : R ≤ 4096) (hC : C ≤ 4096) {d : List Int} (hd : d.length = R * C) : Ev (fun k => mat_Matrix_Check.f k R C C d) 0 := by
  have := check_ev R C C d
  rwa [if_pos (isMat_dense hR hC hd)] at this

/-- What stands in a matrix, by natural numbers. -/
def atN (r c s : Int) (d : List Int) (i k : Nat) : Int := at4 r c s d i k
theorem clone_l1 {R C : Nat} (hR : R ≤ 4096) (hC : C ≤ 4096) {s : Int} (hs : s ≤ 1099511627776) (d : List Int) {ρ : Int × Int × Int × List Int} {i : Nat} (hi : i < R)
    (hk : Ev (fun K => mat_Matrix_Clone.l0 K R ((i : Int) + 1) R C s d R C C (part R C (atN R C s d) ((i + 1) * C))) ρ) :
    ∀ n k : Nat, C - k = n → k ≤ C → Ev (fun K => mat_Matrix_Clone.l1 K i R i C k R C s d R C C (part R C (atN R C s d) (i * C + k))) ρ := by
  intro n
  induction n with
  | zero =>
    intro k h1 h2
    obtain rfl : k = C := by omega
    refine Ev.succ ?_
    simp only [mat_Matrix_Clone.l1]
    refine Ev.neg (by omega) ?_
    rw [w64 (by omega) (by omega), row_end]
    exact hk
  | succ n ih =>
    intro k h1 h2
    refine Ev.succ ?_
    simp only [mat_Matrix_Clone.l1]
    refine Ev.pos (by omega) (Ev.call (at_eq ⟨by omega, by omega, hs⟩ d i k) (Ev.call (set_eq (Sm.nat hR hC) _ i k _) ?_))
    rw [w64 (by omega) (by omega), show at4 (R : Int) (C : Int) s d i k = atN R C s d i k from rfl, set_part hi (by omega)]
    have := ih (k + 1) (by omega) (by omega)
    exact this
theorem clone_l0 {R C : Nat} (hR : R ≤ 4096) (hC : C ≤ 4096) {s : Int} (hs : s ≤ 1099511627776) (d : List Int) :
    ∀ n i : Nat, R - i = n → i ≤ R → Ev (fun K => mat_Matrix_Clone.l0 K R i R C s d R C C (part R C (atN R C s d) (i * C))) ((R : Int), (C : Int), (C : Int), gat R C (atN R C s d)) := by
  intro n
  induction n with
  | zero =>
    intro i h1 h2
    obtain rfl : i = R := by omega
    refine Ev.succ ?_
    simp only [mat_Matrix_Clone.l0]
    refine Ev.neg (by omega) ?_
    rw [part_full]
    exact Ev.now _
  | succ n ih =>
    intro i h1 h2
    refine Ev.succ ?_
    simp only [mat_Matrix_Clone.l0]
    refine Ev.pos (by omega) ?_
    have := clone_l1 hR hC hs d (ρ := ((R : Int), (C : Int), (C : Int), gat R C (atN R C s d))) (i := i) (by omega) (ih (i + 1) (by omega) (by omega)) C 0 (by omega) (by omega)
    exact this
theorem clone_ev {R C : Nat} (hR : R ≤ 4096) (hC : C ≤ 4096) {s : Int} (hs : s ≤ 1099511627776) (d : List Int) :
    Ev (fun K => mat_Matrix_Clone.f K R C s d) ((R : Int), (C : Int), (C : Int), gat R C (atN R C s d)) := by
  unfold mat_Matrix_Clone.f
  refine Ev.call (new_eq hR hC) ?_
  have := clone_l0 hR hC hs d R 0 (by omega) (by omega)
  rw [Nat.zero_mul, part_zero] at this
  exact this
end Gim
namespace Gim
open Go Go.RowKit Go.Proofs.YtlhpejbmjbcmaaaDoorW.PrintWords Go.Proofs.YtlhpejbmjbcmaaaDoorW.PrintLast Go.Proofs.YtlhpejbmjbcmaaaDoorW.PrintMore Go.Proofs.YtlhpejbmjbcmaaaDoor.F
set_option linter.unusedVariables false
set_option linter.unusedSectionVars false

theorem or8z {x y : Int} (hx : 0 ≤ x ∧ x < 256) (hy : 0 ≤ y ∧ y < 256) : (0 ≤ Go.bits .or .u8 x y ∧ Go.bits .or .u8 x y < 256) ∧ (Go.bits .or .u8 x y = 0 → x = 0 ∧ y = 0) := by
  have e : Go.bits .or .u8 x y = IntKind.u8.wrap ((BitVec.ofInt 8 x ||| BitVec.ofInt 8 y).toNat : Int) := rfl
  have e2 : IntKind.u8.wrap ((BitVec.ofInt 8 x ||| BitVec.ofInt 8 y).toNat : Int) = ((BitVec.ofInt 8 x ||| BitVec.ofInt 8 y).toNat : Int) := by
    generalize (BitVec.ofInt 8 x ||| BitVec.ofInt 8 y) = v
    have := v.isLt
    simp [IntKind.wrap, IntKind.bits, IntKind.signed]
    omega
  rw [e, e2]
  have hlt := (BitVec.ofInt 8 x ||| BitVec.ofInt 8 y).isLt
  refine ⟨⟨by omega, by omega⟩, fun h => ?_⟩
  obtain ⟨a, rfl⟩ := Int.eq_ofNat_of_zero_le hx.1
  obtain ⟨b, rfl⟩ := Int.eq_ofNat_of_zero_le hy.1
  have h1 : (BitVec.ofInt 8 (a : Int)).toNat = a := by rw [BitVec.ofInt_natCast, BitVec.toNat_ofNat]; exact Nat.mod_eq_of_lt (by omega)
  have h2 : (BitVec.ofInt 8 (b : Int)).toNat = b := by rw [BitVec.ofInt_natCast, BitVec.toNat_ofNat]; exact Nat.mod_eq_of_lt (by omega)
  rw [BitVec.toNat_or, h1, h2] at h
  have h3 : a ||| b = 0 := by omega
  have h4 : a = 0 ∧ b = 0 := by
    constructor
    · apply Nat.eq_of_testBit_eq; intro i
      have := congrArg (fun z => z.testBit i) h3
      simp [Nat.testBit_or] at this
      simp [this.1]
    · apply Nat.eq_of_testBit_eq; intro i
      have := congrArg (fun z => z.testBit i) h3
      simp [Nat.testBit_or] at this
      simp [this.2]
  omega
/-- A number times a power of two, with its flag. -/
noncomputable def sP (a c : Int) : Int × Int := resOf (fun k => more_Scale.f k a c)
theorem sP_ev {a : Int} (ha : U a) (c : Int) : Ev (fun k => more_Scale.f k a c) (sP a c) := by
  obtain ⟨r, f, ev, R⟩ := more_Scale_ev ha c
  exact Ev.resE ev
theorem sP_R {a : Int} (ha : U a) (c : Int) : ScaleR a (mx (-10000) (mn c 10000)) (sP a c).1 (sP a c).2 := by
  obtain ⟨r, f, ev, R⟩ := more_Scale_ev ha c
  rw [Ev.det (sP_ev ha c) ev]
  exact R
theorem sP_U {a : Int} (ha : U a) (c : Int) : U (sP a c).1 := (sP_R ha c).range ha
theorem sP_F {a : Int} (ha : U a) (c : Int) : 0 ≤ (sP a c).2 ∧ (sP a c).2 < 256 := by have := (sP_R ha c).flags; omega
theorem sP_exact {a c : Int} (ha : U a) (fa : fin a) (h0 : -1000 ≤ c) (h1 : c ≤ 1000) (hf : (sP a c).2 = 0) : fin (sP a c).1 ∧ val (sP a c).1 = val a * pw c := by
  have R := sP_R ha c
  have e : mx (-10000) (mn c 10000) = c := by unfold mx mn; split <;> (try split) <;> omega
  rw [e, hf] at R
  unfold ScaleR at R
  rw [if_neg (by rw [fin_nan fa]; decide)] at R
  by_cases z : mag a = 0
  · rw [if_pos (.inr z)] at R
    rw [R.1, val_zero_iff.mpr z]
    exact ⟨fa, by grind⟩
  · have ni : mag a ≠ INF := by unfold fin at fa; omega
    rw [if_neg (by omega)] at R
    exact ⟨R.exact.2, R.exact.1⟩
theorem sum_ev {F a b : Int} (ha : U a) (hb : U b) : ∃ r F', Ev (fun k => soft_Calc_Add.f k F a b) (r, F') ∧ U r := by
  obtain ⟨r, f, ev, R⟩ := add_ev ha hb
  refine ⟨r, Go.bits .or .u8 F f, ?_, R.range ha hb⟩
  unfold soft_Calc_Add.f
  exact Ev.bind ev (Ev.call rfl (Ev.now _))
/-- What holds of a matrix that is being balanced. -/
structure LS (n : Nat) (m A : Nat → Nat → Int) (p : Nat → Nat) (w : Nat → Int) (lo hi : Nat) : Prop where
  lohi : lo ≤ hi
  hin : hi ≤ n
  plt : ∀ i, i < n → p i < n
  pin : ∀ i j, i < n → j < n → p i = p j → i = j
  wb : ∀ i, i < n → -200 ≤ w i ∧ w i ≤ 200
  w0 : ∀ i, i < n → (i < lo ∨ hi ≤ i) → w i = 0
  u : ∀ i k, U (A i k)
  f : ∀ i k, i < n → k < n → fin (A i k)
  eq : ∀ i k, i < n → k < n → val (A i k) = val (m (p i) (p k)) * pw (w k - w i)
  ap1 : ∀ i k, i < n → k < i → hi ≤ i → mag (A i k) = 0
  ap2 : ∀ i k, i < n → k < i → k < lo → mag (A i k) = 0
  nr : ∀ i, lo ≤ i → i < hi → ¬ LoneA A i lo hi false
  nc : ∀ i, lo ≤ i → i < hi → ¬ LoneA A i lo hi true
theorem zero_iff {a b c : Int} (h : val a = val b * pw c) : mag a = 0 ↔ mag b = 0 := by
  rw [← val_zero_iff, ← val_zero_iff, h]
  have := pw_pos c
  constructor
  · intro e
    rcases Rat.mul_eq_zero.mp e with e | e
    · exact e
    · rw [e] at this; exact absurd this (by decide)
  · intro e; rw [e]; grind
theorem LS.scaled {n : Nat} {m A A' : Nat → Nat → Int} {p : Nat → Nat} {w w' : Nat → Int} {lo hi : Nat} (h : LS n m A p w lo hi) (hw : ∀ i, i < n → -200 ≤ w' i ∧ w' i ≤ 200)
    (hw0 : ∀ i, i < n → (i < lo ∨ hi ≤ i) → w' i = 0) (hu : ∀ i k, U (A' i k))
    (hA : ∀ i k, i < n → k < n → fin (A' i k) ∧ val (A' i k) = val (A i k) * pw ((w' k - w k) - (w' i - w i))) : LS n m A' p w' lo hi where
  lohi := h.lohi
  hin := h.hin
  plt := h.plt
  pin := h.pin
  wb := hw
  w0 := hw0
  u := hu
  f i k hi1 hk := (hA i k hi1 hk).1
  eq i k hi1 hk := by
    rw [(hA i k hi1 hk).2, h.eq i k hi1 hk, Rat.mul_assoc, ← pw_add]
    congr 2
    omega
  ap1 i k hi1 hk hh := (zero_iff (hA i k hi1 (by omega)).2).mpr (h.ap1 i k hi1 hk hh)
  ap2 i k hi1 hk hh := (zero_iff (hA i k hi1 (by omega)).2).mpr (h.ap2 i k hi1 hk hh)
  nr i a b hl := h.nr i a b fun j c d e => by
    have hin := h.hin
    have := hl j c d e
    simp only [Bool.false_eq_true, if_false] at this ⊢
    exact (zero_iff (hA i j (by omega) (by omega)).2).mp this
  nc i a b hl := h.nc i a b fun j c d e => by
    have hin := h.hin
    have := hl j c d e
    simp only [if_true] at this ⊢
    exact (zero_iff (hA j i (by omega) (by omega)).2).mp this
/-- One row and one column scaled, as far as some place. -/
noncomputable def lvT (A : Nat → Nat → Int) (i : Nat) (P : Int) (t x y : Nat) : Int :=
  if x = i ∧ y < t ∧ y ≠ i then (sP (A i y) (-P)).1 else if y = i ∧ x < t ∧ x ≠ i then (sP (A x i) P).1 else A x y
theorem lvT_U {A : Nat → Nat → Int} (hA : ∀ i k, U (A i k)) (i : Nat) (P : Int) (t x y : Nat) : U (lvT A i P t x y) := by
  unfold lvT
  split
  · exact sP_U (hA _ _) _
  · split
    · exact sP_U (hA _ _) _
    · exact hA _ _
theorem lvT_same {A : Nat → Nat → Int} {i : Nat} {P : Int} {t t' x y : Nat} (h1 : x = i → y ≠ i → (y < t ↔ y < t')) (h2 : y = i → x ≠ i → (x < t ↔ x < t')) : lvT A i P t x y = lvT A i P t' x y := by
  unfold lvT
  by_cases a : x = i
  · by_cases b : y = i
    · simp [a, b]
    · have := h1 a b
      simp [a, b, this]
  · by_cases b : y = i
    · have := h2 b a
      simp [a, b, this]
    · simp [a, b]
theorem cpy_all {a b : List Int} (h : a.length = b.length) : Go.Rk.cpy a b = b := by
  unfold Go.Rk.cpy
  rw [h, List.take_length, ← h, List.drop_length, List.append_nil]
section
variable {n : Nat} (hn : n ≤ 100) {A : Nat → Nat → Int} (hA : ∀ i k, U (A i k)) {pl : List Int} {w : Nat → Int} {lo hi : Nat}
include hn hA
theorem level_l1 {i : Nat} (hi1 : i < n) {P : Int} (h0 : -400 ≤ P) (h1 : P ≤ 400) : ∀ t j : Nat, n - j = t → j ≤ n → ∀ F : Int, 0 ≤ F ∧ F < 256 →
    (F = 0 → ∀ x, x < j → x ≠ i → (sP (A x i) P).2 = 0 ∧ (sP (A i x) (-P)).2 = 0) →
    ∃ b : Bool, (b = true → ∀ x, x < n → x ≠ i → (sP (A x i) P).2 = 0 ∧ (sP (A i x) (-P)).2 = 0) ∧
      Ev (fun K => bal_Balance_level.l1 K i P F n j lo hi (gat n n A) pl (cnt n w) n n n n n (gat n n (lvT A i P j)))
        (if b = true then (true, (lo : Int), (hi : Int), gat n n (lvT A i P n), pl, (cnt n w).set i (wrap64 (w i + P))) else (false, (lo : Int), (hi : Int), gat n n A, pl, cnt n w)) := by
  intro t
  induction t with
  | zero =>
    intro j e1 e2 F hF hz
    obtain rfl : n = j := by omega
    by_cases c : F = 0
    · refine ⟨true, fun _ => hz c, Ev.succ ?_⟩
      simp only [bal_Balance_level.l1]
      have hl := cnt_len n w
      refine Ev.neg (by omega) (Ev.pos c (Ev.pos (by omega) (Ev.pos (by omega) ?_)))
      rw [cpy_all (by rw [gat_length, gat_length]), cnt_rd w hi1, Int.toNat_natCast]
      exact Ev.now _
    · refine ⟨false, fun h => (by cases h), Ev.succ ?_⟩
      simp only [bal_Balance_level.l1]
      exact Ev.neg (by omega) (Ev.neg c (Ev.now _))
  | succ t ih =>
    intro j e1 e2 F hF hz
    have hj : j < n := by omega
    have sm : Sm n n n := Sm.nat (by omega) (by omega)
    have ew : wrap64 ((j : Int) + 1) = ((j + 1 : Nat) : Int) := by rw [w64 (by omega) (by omega)]; rfl
    by_cases c : j = i
    · subst c
      obtain ⟨b, hb, ev⟩ := ih (j + 1) (by omega) (by omega) F hF (fun h x a d => hz h x (by omega) d)
      refine ⟨b, hb, Ev.succ ?_⟩
      simp only [bal_Balance_level.l1]
      rw [ew]
      refine Ev.pos (by omega) (Ev.pos trivial ?_)
      rw [gat_congr (g := lvT A j P j) (g' := lvT A j P (j + 1))]
      · exact ev
      · exact fun x y hx hy => lvT_same (by omega) (by omega)
    · have u1 := hA j i
      have u2 := hA i j
      have f1 := sP_F u1 P
      have f2 := sP_F u2 (-P)
      have o1 := or8z f1 f2
      have o2 := or8z hF o1.1
      obtain ⟨b, hb, ev⟩ := ih (j + 1) (by omega) (by omega) _ o2.1 (fun h x a d => by
        obtain ⟨g1, g2⟩ := o2.2 h
        by_cases e : x = j
        · subst e; exact o1.2 g2
        · exact hz g1 x (by omega) d)
      refine ⟨b, hb, Ev.succ ?_⟩
      simp only [bal_Balance_level.l1]
      rw [ew, w64 (x := -P) (by omega) (by omega)]
      refine Ev.pos (by omega) (Ev.neg (by omega) (Ev.call (at_eq sm _ _ _) ?_))
      rw [at_gat hj hi1]
      refine Ev.bind (sP_ev u1 P) (Ev.call (at_eq sm _ _ _) ?_)
      rw [at_gat hi1 hj]
      refine Ev.bind (sP_ev u2 (-P)) (Ev.call (set_eq sm _ _ _ _) (Ev.call (set_eq sm _ _ _ _) ?_))
      rw [set_gat hj hi1, set_gat hi1 hj, gat_congr (g := fun x y => if x = i ∧ y = j then (sP (A i j) (-P)).1 else if x = j ∧ y = i then (sP (A j i) P).1 else lvT A i P j x y) (g' := lvT A i P (j + 1))]
      · exact ev
      · intro x y hx hy
        by_cases c1 : x = i ∧ y = j
        · obtain ⟨rfl, rfl⟩ := c1
          rw [if_pos ⟨rfl, rfl⟩]
          unfold lvT
          rw [if_pos ⟨rfl, by omega, by omega⟩]
        · rw [if_neg c1]
          by_cases c2 : x = j ∧ y = i
          · obtain ⟨rfl, rfl⟩ := c2
            rw [if_pos ⟨rfl, rfl⟩]
            unfold lvT
            rw [if_neg (by omega), if_pos ⟨rfl, by omega, by omega⟩]
          · rw [if_neg c2]
            exact lvT_same (by omega) (by omega)
end
theorem mxmn {a b v : Int} (h : a ≤ b) : a ≤ mx a (mn v b) ∧ mx a (mn v b) ≤ b := by unfold mx mn; split <;> split <;> omega
section
variable {n : Nat} (hn : n ≤ 100) {m : Nat → Nat → Int} {p : Nat → Nat} {lo hi : Nat}
include hn
theorem level_j1 {A : Nat → Nat → Int} {w : Nat → Int} (h : LS n m A p w lo hi) {i : Nat} (a1 : lo ≤ i) (a2 : i < hi) {col row : Int} (uc : U col) (ur : U row) (t : Bool) :
    ∃ b A' w', LS n m A' p w' lo hi ∧ Ev (fun K => bal_Balance_level.j1 K i col row t lo hi (gat n n A) (cnt n (fun x => (p x : Int))) (cnt n w) n n n) (b, (lo : Int), (hi : Int), gat n n A', cnt n (fun x => (p x : Int)), cnt n w') := by
  have hin := h.hin
  have hl := cnt_len n w
  have wbi := h.wb i (by omega)
  cases t
  · have er := word_Exp_eq ur
    have ec := word_Exp_eq uc
    generalize row / 4503599627370496 % 2048 = r at er
    generalize col / 4503599627370496 % 2048 = c at ec
    have hP := mxmn (a := -200 - w i) (b := 200 - w i) (v := wrap64 (Int.tdiv (wrap64 (r - c)) 2)) (by omega)
    by_cases c0 : mx (-200 - w i) (mn (wrap64 (Int.tdiv (wrap64 (r - c)) 2)) (200 - w i)) = 0
    · refine ⟨false, A, w, h, Ev.succ ?_⟩
      simp only [bal_Balance_level.j1]
      rw [cnt_rd w (show i < n by omega), w64 (x := -200 - w i) (by omega) (by omega), w64 (x := 200 - w i) (by omega) (by omega)]
      refine Ev.neg (by decide) (Ev.call er (Ev.call ec (Ev.pos (by omega) (Ev.pos (by omega) (Ev.pos c0 (Ev.now _))))))
    · generalize hPe : mx (-200 - w i) (mn (wrap64 (Int.tdiv (wrap64 (r - c)) 2)) (200 - w i)) = P at hP c0
      obtain ⟨b, hb, ev⟩ := level_l1 hn h.u (pl := cnt n (fun x => (p x : Int))) (w := w) (lo := lo) (hi := hi) (show i < n by omega) (P := P) (by omega) (by omega) n 0 (by omega) (by omega) 0 (by decide) (fun _ x a => by omega)
      have start : Ev (fun K => bal_Balance_level.j1 K i col row false lo hi (gat n n A) (cnt n (fun x => (p x : Int))) (cnt n w) n n n)
          (if b = true then (true, (lo : Int), (hi : Int), gat n n (lvT A i P n), cnt n (fun x => (p x : Int)), (cnt n w).set i (wrap64 (w i + P))) else (false, (lo : Int), (hi : Int), gat n n A, cnt n (fun x => (p x : Int)), cnt n w)) := by
        refine Ev.succ ?_
        simp only [bal_Balance_level.j1]
        rw [cnt_rd w (show i < n by omega), w64 (x := -200 - w i) (by omega) (by omega), w64 (x := 200 - w i) (by omega) (by omega)]
        have hP0 : ¬ P = 0 := c0
        refine Ev.neg (by decide) (Ev.call er (Ev.call ec (Ev.pos (by omega) (Ev.pos (by omega) (Ev.neg (by rw [hPe]; exact hP0) ?_)))))
        rw [hPe]
        refine Ev.bind (clone_ev (by omega) (by omega) (by omega) _) ?_
        dsimp only
        rw [gat_congr (g := atN n n n (gat n n A)) (g' := lvT A i P 0)]
        · exact ev
        · intro x y hx hy
          show at4 n n n (gat n n A) x y = _
          rw [at_gat hx hy]
          unfold lvT
          rw [if_neg (by omega), if_neg (by omega)]
      cases b
      · exact ⟨false, A, w, h, start⟩
      · have hz := hb rfl
        refine ⟨true, lvT A i P n, fun x => if x = i then w i + P else w x, ?_, ?_⟩
        · refine h.scaled ?_ ?_ (lvT_U h.u i P n) ?_
          · intro x hx
            by_cases e : x = i
            · subst e; simp only [if_true]; omega
            · simp only [e, if_false]; exact h.wb x hx
          · intro x hx hh
            have e : ¬ x = i := by omega
            simp only [e, if_false]
            exact h.w0 x hx hh
          · intro x y hx hy
            unfold lvT
            by_cases c1 : x = i ∧ y < n ∧ y ≠ i
            · obtain ⟨rfl, c2, c3⟩ := c1
              rw [if_pos ⟨rfl, c2, c3⟩]
              simp only [if_true, if_neg c3]
              have := sP_exact (h.u x y) (h.f x y hx hy) (c := -P) (by omega) (by omega) (hz y hy c3).2
              rw [show w y - w y - (w x + P - w x) = -P from by omega]
              exact this
            · rw [if_neg c1]
              by_cases c2 : y = i ∧ x < n ∧ x ≠ i
              · obtain ⟨rfl, c3, c4⟩ := c2
                rw [if_pos ⟨rfl, c3, c4⟩]
                simp only [if_true, if_neg c4]
                have := sP_exact (h.u x y) (h.f x y hx hy) (c := P) (by omega) (by omega) (hz x hx c4).1
                rw [show w y + P - w y - (w x - w x) = P from by omega]
                exact this
              · rw [if_neg c2]
                refine ⟨h.f x y hx hy, ?_⟩
                by_cases c3 : x = i
                · have c4 : y = i := by omega
                  subst c3 c4
                  simp only [if_true]
                  rw [show w y + P - w y - (w y + P - w y) = 0 from by omega, pw_zero, Rat.mul_one]
                · have c4 : ¬ y = i := by omega
                  simp only [if_neg c3, if_neg c4]
                  rw [show w y - w y - (w x - w x) = 0 from by omega, pw_zero, Rat.mul_one]
        · rw [if_pos rfl, w64 (x := w i + P) (by omega) (by omega), cnt_set] at start
          exact start
  · refine ⟨false, A, w, h, Ev.succ ?_⟩
    simp only [bal_Balance_level.j1]
    exact Ev.pos trivial (Ev.now _)
theorem level_l0 {A : Nat → Nat → Int} {w : Nat → Int} (h : LS n m A p w lo hi) {i : Nat} (a1 : lo ≤ i) (a2 : i < hi) : ∀ t k : Nat, hi - k = t → k ≤ hi → ∀ col row F : Int, U col → U row →
    ∃ b A' w', LS n m A' p w' lo hi ∧ Ev (fun K => bal_Balance_level.l0 K i col row k lo hi (gat n n A) (cnt n (fun x => (p x : Int))) (cnt n w) n n n F) (b, (lo : Int), (hi : Int), gat n n A', cnt n (fun x => (p x : Int)), cnt n w') := by
  have hin := h.hin
  intro t
  induction t with
  | zero =>
    intro k e1 e2 col row F uc ur
    by_cases c : kindOf (col % 9223372036854775808) = 3
    · obtain ⟨b, A', w', g1, g2⟩ := level_j1 hn h a1 a2 uc ur (kindOf (row % 9223372036854775808) != 3)
      refine ⟨b, A', w', g1, Ev.succ ?_⟩
      simp only [bal_Balance_level.l0]
      exact Ev.neg (by omega) (Ev.bind (word_Kind_ev uc) (Ev.pos c (Ev.bind (word_Kind_ev ur) g2)))
    · obtain ⟨b, A', w', g1, g2⟩ := level_j1 hn h a1 a2 uc ur true
      refine ⟨b, A', w', g1, Ev.succ ?_⟩
      simp only [bal_Balance_level.l0]
      exact Ev.neg (by omega) (Ev.bind (word_Kind_ev uc) (Ev.neg c g2))
  | succ t ih =>
    intro k e1 e2 col row F uc ur
    have hk : k < n := by omega
    have sm : Sm n n n := Sm.nat (by omega) (by omega)
    have ew : wrap64 ((k : Int) + 1) = ((k + 1 : Nat) : Int) := by rw [w64 (by omega) (by omega)]; rfl
    by_cases c : k = i
    · subst c
      obtain ⟨b, A', w', g1, g2⟩ := ih (k + 1) (by omega) (by omega) col row F uc ur
      refine ⟨b, A', w', g1, Ev.succ ?_⟩
      simp only [bal_Balance_level.l0]
      rw [ew]
      exact Ev.pos (by omega) (Ev.pos trivial g2)
    · have ua : ∀ x y : Nat, U (A x y % 9223372036854775808) := fun x y => by unfold U; omega
      obtain ⟨s1, F1, x1, u1⟩ := sum_ev (F := F) uc (ua k i)
      obtain ⟨s2, F2, x2, u2⟩ := sum_ev (F := F1) ur (ua i k)
      obtain ⟨b, A', w', g1, g2⟩ := ih (k + 1) (by omega) (by omega) s1 s2 F2 u1 u2
      refine ⟨b, A', w', g1, Ev.succ ?_⟩
      simp only [bal_Balance_level.l0]
      rw [ew]
      refine Ev.pos (by omega) (Ev.neg (by omega) (Ev.call (at_eq sm _ _ _) ?_))
      rw [at_gat hk (show i < n by omega)]
      refine Ev.call (word_Abs_eq (h.u k i)) (Ev.bind x1 (Ev.call (at_eq sm _ _ _) ?_))
      rw [at_gat (show i < n by omega) hk]
      exact Ev.call (word_Abs_eq (h.u i k)) (Ev.bind x2 g2)
theorem level_ev {A : Nat → Nat → Int} {w : Nat → Int} (h : LS n m A p w lo hi) {i : Nat} (a1 : lo ≤ i) (a2 : i < hi) :
    ∃ b A' w', LS n m A' p w' lo hi ∧ Ev (fun K => bal_Balance_level.f K (cnt n (fun x => (p x : Int))) (cnt n w) lo hi n n n (gat n n A) i) (b, (lo : Int), (hi : Int), gat n n A', cnt n (fun x => (p x : Int)), cnt n w') := by
  unfold bal_Balance_level.f
  exact level_l0 hn h a1 a2 _ lo rfl h.lohi 0 0 0 ⟨by decide, by decide⟩ ⟨by decide, by decide⟩
theorem of_l6 {r : Nat} (hr : r ≤ 20) (next : ∀ (ag : Bool) (A : Nat → Nat → Int) (w : Nat → Int), LS n m A p w lo hi → ∃ A' w', LS n m A' p w' lo hi ∧
      Ev (fun K => bal_Of.l5 K ag ((r + 1 : Nat) : Int) n n n lo hi (gat n n A) (cnt n (fun x => (p x : Int))) (cnt n w)) ((n : Int), (n : Int), (n : Int), gat n n A', cnt n (fun x => (p x : Int)), cnt n w', (lo : Int), (hi : Int), 0)) :
    ∀ s i : Nat, hi - i = s → lo ≤ i → i ≤ hi → ∀ (ag : Bool) (A : Nat → Nat → Int) (w : Nat → Int), LS n m A p w lo hi → ∃ A' w', LS n m A' p w' lo hi ∧
      Ev (fun K => bal_Of.l6 K ag r i n n n lo hi (gat n n A) (cnt n (fun x => (p x : Int))) (cnt n w)) ((n : Int), (n : Int), (n : Int), gat n n A', cnt n (fun x => (p x : Int)), cnt n w', (lo : Int), (hi : Int), 0) := by
  intro s
  induction s with
  | zero =>
    intro i e1 e2 e3 ag A w h
    obtain ⟨A', w', g1, g2⟩ := next ag A w h
    refine ⟨A', w', g1, Ev.succ ?_⟩
    simp only [bal_Of.l6]
    rw [w64 (x := (r : Int) + 1) (by omega) (by omega)]
    exact Ev.neg (by omega) g2
  | succ s ih =>
    intro i e1 e2 e3 ag A w h
    have hin := h.hin
    obtain ⟨b, A1, w1, g1, g2⟩ := level_ev hn h e2 (show i < hi by omega)
    have ew : wrap64 ((i : Int) + 1) = ((i + 1 : Nat) : Int) := by rw [w64 (by omega) (by omega)]; rfl
    cases b
    · obtain ⟨A', w', k1, k2⟩ := ih (i + 1) (by omega) (by omega) (by omega) ag A1 w1 g1
      refine ⟨A', w', k1, Ev.succ ?_⟩
      simp only [bal_Of.l6]
      rw [ew]
      exact Ev.pos (by omega) (Ev.bind g2 (Ev.neg Bool.false_ne_true k2))
    · obtain ⟨A', w', k1, k2⟩ := ih (i + 1) (by omega) (by omega) (by omega) true A1 w1 g1
      refine ⟨A', w', k1, Ev.succ ?_⟩
      simp only [bal_Of.l6]
      rw [ew]
      exact Ev.pos (by omega) (Ev.bind g2 (Ev.pos rfl k2))
theorem of_l5 : ∀ t r : Nat, 20 - r = t → r ≤ 20 → ∀ (ag : Bool) (A : Nat → Nat → Int) (w : Nat → Int), LS n m A p w lo hi → ∃ A' w', LS n m A' p w' lo hi ∧
      Ev (fun K => bal_Of.l5 K ag r n n n lo hi (gat n n A) (cnt n (fun x => (p x : Int))) (cnt n w)) ((n : Int), (n : Int), (n : Int), gat n n A', cnt n (fun x => (p x : Int)), cnt n w', (lo : Int), (hi : Int), 0) := by
  have stop : ∀ (r : Int) (A : Nat → Nat → Int) (w : Nat → Int), Ev (fun K => bal_Of.j7 K r false n n n lo hi (gat n n A) (cnt n (fun x => (p x : Int))) (cnt n w)) ((n : Int), (n : Int), (n : Int), gat n n A, cnt n (fun x => (p x : Int)), cnt n w, (lo : Int), (hi : Int), 0) := by
    intro r A w
    refine Ev.succ ?_
    simp only [bal_Of.j7]
    exact Ev.neg (by decide) (Ev.now _)
  intro t
  induction t with
  | zero =>
    intro r e1 e2 ag A w h
    refine ⟨A, w, h, Ev.succ ?_⟩
    simp only [bal_Of.l5]
    have e : decide ((r : Int) < 20) = false := decide_eq_false (by omega)
    cases ag
    · exact Ev.neg (by decide) (stop _ A w)
    · rw [e]
      exact Ev.pos rfl (stop _ A w)
  | succ t ih =>
    intro r e1 e2 ag A w h
    cases ag
    · refine ⟨A, w, h, Ev.succ ?_⟩
      simp only [bal_Of.l5]
      exact Ev.neg (by decide) (stop _ A w)
    · obtain ⟨A', w', g1, g2⟩ := of_l6 hn (r := r) e2 (fun ag A w hh => ih (r + 1) (by omega) (by omega) ag A w hh) (hi - lo) lo rfl (Nat.le_refl _) h.lohi false A w h
      refine ⟨A', w', g1, Ev.succ ?_⟩
      simp only [bal_Of.l5]
      have e : decide ((r : Int) < 20) = true := decide_eq_true (by omega)
      rw [e]
      refine Ev.pos trivial (Ev.succ ?_)
      simp only [bal_Of.j7]
      exact Ev.pos trivial g2
end
theorem cnt_const (n : Nat) (v : Int) : List.replicate n v = cnt n (fun _ => v) := by
  unfold cnt
  apply List.ext_getElem
  · simp
  · intro i h1 h2; simp
section
variable {n : Nat} (hn : n ≤ 100) {d : List Int} (wd : ∀ x ∈ d, U x) (ld : d.length = n * n)
include hn wd ld
theorem of_l0 {pw : List Int} {A : Nat → Nat → Int} {ρ : BR} (next : Ev (fun K => bal_Of.l1 K n n n 0 n (gat n n A) (cnt n (fun x => (x : Int))) pw) ρ) : ∀ t j : Nat, n - j = t → j ≤ n →
    Ev (fun K => bal_Of.l0 K n j n n n 0 (gat n n A) (cnt n (fun x => if x < j then (x : Int) else 0)) pw) ρ := by
  intro t
  induction t with
  | zero =>
    intro j e1 e2
    obtain rfl : n = j := by omega
    refine Ev.succ ?_
    simp only [bal_Of.l0]
    rw [cnt_congr (g := fun x => (x : Int)) (fun x hx => if_pos hx)]
    exact Ev.neg (by omega) next
  | succ t ih =>
    intro j e1 e2
    have hh := ih (j + 1) (by omega) (by omega)
    have hl := cnt_len n (fun x => if x < j then (x : Int) else 0)
    refine Ev.succ ?_
    simp only [bal_Of.l0]
    rw [w64 (x := (j : Int) + 1) (by omega) (by omega), Int.toNat_natCast, cnt_set]
    refine Ev.pos (by omega) (Ev.pos (by omega) (Ev.pos (by omega) ?_))
    rw [cnt_congr (g := fun x => if x < j + 1 then (x : Int) else 0)]
    · exact hh
    · intro x hx
      by_cases c : x = j
      · subst c; rw [if_pos rfl, if_pos (by omega)]
      · rw [if_neg c]
        by_cases c2 : x < j
        · rw [if_pos c2, if_pos (by omega)]
        · rw [if_neg c2, if_neg (by omega)]
/-- BALANCED. -/
theorem bal_ev (ff : ∀ i k : Nat, i < n → k < n → fin (at4 n n n d i k)) : ∃ A p w lo hi, LS n (fun i k => at4 n n n d i k) A p w lo hi ∧
    Ev (fun K => bal_Of.f K n n n d) ((n : Int), (n : Int), (n : Int), gat n n A, cnt n (fun x => (p x : Int)), cnt n w, (lo : Int), (hi : Int), 0) := by
  have b0 : BS n (fun i k => at4 n n n d i k) (fun i k => at4 n n n d i k) (fun x => x) 0 n :=
    ⟨by omega, Nat.le_refl _, fun i h => h, fun i j _ _ h => h, fun i k _ _ => rfl, fun i k => at_U wd _ _, fun i k a b c => by omega, fun i k _ _ c => by omega⟩
  obtain ⟨A1, p1, hi, b1, nr1, g1⟩ := rows_ev hn (pw := cnt n (fun _ => 0)) n _ _ b0
  obtain ⟨A2, p2, lo, b2, nr2, nc2, g2⟩ := cols_ev hn (pw := cnt n (fun _ => 0)) _ 0 hi A1 p1 rfl b1 nr1
  have hin := b2.hin
  have l0 : LS n (fun i k => at4 n n n d i k) A2 p2 (fun _ => 0) lo hi := by
    refine ⟨b2.lohi, b2.hin, b2.plt, b2.pin, fun _ _ => by decide, fun _ _ _ => rfl, b2.u, fun i k a b => ?_, fun i k a b => ?_, b2.ap1, b2.ap2, fun i a b hl => nr2 i b fun j c e f => ?_, nc2⟩
    · rw [b2.eq i k a b]; exact ff _ _ (b2.plt i a) (b2.plt k b)
    · rw [b2.eq i k a b, Int.sub_self, pw_zero, Rat.mul_one]
    · by_cases c2 : lo ≤ j
      · exact hl j c2 e f
      · simp only [Bool.false_eq_true, if_false]
        exact b2.ap2 i j (by omega) (by omega) (by omega)
  obtain ⟨A, w, l1, g3⟩ := of_l5 hn 20 0 rfl (by omega) true A2 _ l0
  refine ⟨A, p2, w, lo, hi, l1, ?_⟩
  obtain ⟨t, et, ft⟩ := finite_ev (R := n) (C := n) (s := (n : Int)) (by omega) (by omega) (by omega) wd
  obtain rfl : t = true := ft.mpr ff
  have hw := of_l0 hn wd ld (pw := cnt n (fun _ => 0)) (A := fun i k => at4 n n n d i k) (g1 _ (g2 _ g3)) n 0 (by omega) (by omega)
  unfold bal_Of.f
  refine Ev.bind (check_dense (by omega) (by omega) ld) (Ev.pos rfl (Ev.succ ?_))
  simp only [bal_Of.j0]
  refine Ev.neg (by simp) (Ev.bind et (Ev.pos rfl (Ev.bind (clone_ev (by omega) (by omega) (by omega) _) (Ev.pos (by omega) (Ev.pos (by omega) ?_)))))
  rw [Int.toNat_natCast, cnt_const]
  rw [cnt_congr (f := fun x => if x < 0 then (x : Int) else 0) (g := fun _ => 0) (fun x _ => if_neg (Nat.not_lt_zero x))] at hw
  exact hw
/-- What isn't finite. -/
theorem bal_no (ff : ¬ ∀ i k : Nat, i < n → k < n → fin (at4 n n n d i k)) : Ev (fun K => bal_Of.f K n n n d) (0, 0, 0, [], [], [], 0, 0, 6) := by
  obtain ⟨t, et, ft⟩ := finite_ev (R := n) (C := n) (s := (n : Int)) (by omega) (by omega) (by omega) wd
  have tf : t = false := by cases t; rfl; exact absurd (ft.mp rfl) ff
  subst tf
  unfold bal_Of.f
  refine Ev.bind (check_dense (by omega) (by omega) ld) (Ev.pos rfl (Ev.succ ?_))
  simp only [bal_Of.j0]
  exact Ev.neg (by simp) (Ev.bind et (Ev.neg (by decide) (Ev.now _)))
end
end Gim
namespace Gim
open Go Go.RowKit Go.Proofs.YtlhpejbmjbcmaaaDoorW.PrintWords Go.Proofs.YtlhpejbmjbcmaaaDoorW.PrintLast Go.Proofs.YtlhpejbmjbcmaaaDoorW.PrintMore Go.Proofs.YtlhpejbmjbcmaaaDoor.F
set_option linter.unusedVariables false

theorem u64_nn (x : Int) : 0 ≤ IntKind.u64.wrap x := by
  simp only [IntKind.wrap, IntKind.bits, IntKind.signed]
  simp
  omega
theorem made16_l0 {n : Nat} (hn : n ≤ 100) {all : List Int} (ha : ∀ x ∈ all, U x) (hl : all.length ≤ 100) {holes : Int} :
    ∀ t x : Nat, n * n - x = t → x ≤ n * n → ∀ d, Words (n * n) d → ∃ d', Words (n * n) d' ∧ Ev (fun K => gimballaw16_made.l0 K all holes ((n * n : Nat) : Int) x n n n d) ((n : Int), (n : Int), (n : Int), d') := by
  have hRC : n * n ≤ 10000 := Nat.mul_le_mul hn hn
  intro t
  induction t with
  | zero =>
    intro x h1 h2 d hd
    obtain rfl : x = n * n := by omega
    refine ⟨d, hd, Ev.succ ?_⟩
    simp only [gimballaw16_made.l0]
    exact Ev.neg (by omega) (Ev.now _)
  | succ t ih =>
    intro x h1 h2 d hd
    have hlen := hd.1
    have ew : wrap64 ((x : Int) + 1) = ((x + 1 : Nat) : Int) := by rw [w64 (by omega) (by omega)]; rfl
    have a1 : (x : Int) < ((n * n : Nat) : Int) := by omega
    have a2 : (0 : Int) ≤ (x : Int) := by omega
    have a3 : (x : Int) < (d.length : Int) := by omega
    obtain ⟨d0, hd0, ev0⟩ := ih (x + 1) (by omega) (by omega) d hd
    by_cases c : (all.length : Int) > 0
    · have a4 : ¬ (all.length : Int) = 0 := by omega
      have i0 : 0 ≤ Int.tmod (x : Int) (all.length : Int) := Int.tmod_nonneg _ (by omega)
      have i1 : Int.tmod (x : Int) (all.length : Int) < (all.length : Int) := Int.tmod_lt_of_pos _ c
      have hu := ha _ (rd_mem i0 i1)
      have s0 := u64_nn (Go.bits .and .i64 (x : Int) 63)
      by_cases z : Go.bits .and .u64 (shr .u64 holes (IntKind.u64.wrap (Go.bits .and .i64 (x : Int) 63))) 1 = 0
      · obtain ⟨d', hd', ev⟩ := ih (x + 1) (by omega) (by omega) (d.set (x : Int).toNat (rd all (Int.tmod (x : Int) (all.length : Int)))) (hd.set _ hu)
        refine ⟨d', hd', Ev.succ ?_⟩
        simp only [gimballaw16_made.l0]
        rw [ew]
        exact Ev.pos a1 (Ev.pos c (Ev.pos s0 (Ev.pos z (Ev.neg a4 (Ev.pos i0 (Ev.pos i1 (Ev.pos a2 (Ev.pos a3 ev))))))))
      · refine ⟨d0, hd0, Ev.succ ?_⟩
        simp only [gimballaw16_made.l0]
        rw [ew]
        exact Ev.pos a1 (Ev.pos c (Ev.pos s0 (Ev.neg z ev0)))
    · refine ⟨d0, hd0, Ev.succ ?_⟩
      simp only [gimballaw16_made.l0]
      rw [ew]
      exact Ev.pos a1 (Ev.neg c ev0)
theorem made16_ev {n : Nat} (hn : n ≤ 100) {all : List Int} (ha : ∀ x ∈ all, U x) (hl : all.length ≤ 100) {holes : Int} :
    ∃ d, Words (n * n) d ∧ Ev (fun K => gimballaw16_made.f K n all holes) ((n : Int), (n : Int), (n : Int), d) := by
  obtain ⟨d, hd, ev⟩ := made16_l0 hn ha hl (holes := holes) (n * n) 0 (by omega) (by omega) _ (Words.zeros _)
  refine ⟨d, hd, ?_⟩
  unfold gimballaw16_made.f
  refine Ev.call (new_eq (by omega) (by omega)) ?_
  dsimp only
  rw [List.length_replicate]
  exact ev
end Gim
namespace Gim
set_option linter.unusedVariables false

/-- The whole number of a list of digits. -/
def nv : List Int → Int
  | [] => 0
  | d :: l => d + 4294967296 * nv l
def Dig (l : List Int) : Prop := ∀ x ∈ l, 0 ≤ x ∧ x < 4294967296
/-- 2^(32 n). -/
def bp (n : Nat) : Int := 4294967296 ^ n
theorem bp_zero : bp 0 = 1 := rfl
theorem bp_succ (n : Nat) : bp (n + 1) = 4294967296 * bp n := by unfold bp; rw [Int.pow_succ, Int.mul_comm]
theorem bp_pos (n : Nat) : 0 < bp n := by unfold bp; exact Int.pow_pos (by decide)
theorem bp_add (m n : Nat) : bp (m + n) = bp m * bp n := by unfold bp; exact Int.pow_add _ _ _
theorem bp_mono {m n : Nat} (h : m ≤ n) : bp m ≤ bp n := by
  obtain ⟨k, rfl⟩ : ∃ k, n = m + k := ⟨n - m, by omega⟩
  rw [bp_add]
  have h1 := bp_pos m
  have h2 := bp_pos k
  have := Int.mul_le_mul_of_nonneg_left (show 1 ≤ bp k by omega) (Int.le_of_lt h1)
  omega
theorem bp_pw (n : Nat) : ((bp n : Int) : Rat) = pw (32 * n) := by
  have : bp n = 2 ^ (32 * n) := by unfold bp; rw [Int.pow_mul]; rfl
  have e : ((32 * (n : Int)) : Int) = ((32 * n : Nat) : Int) := by omega
  rw [this, e, pw_nat]
theorem nv_cons (d : Int) (l : List Int) : nv (d :: l) = d + 4294967296 * nv l := rfl
theorem nv_append (l l' : List Int) : nv (l ++ l') = nv l + bp l.length * nv l' := by
  induction l with
  | nil => simp [nv, bp_zero]
  | cons d l ih =>
    rw [List.cons_append, nv_cons, nv_cons, ih, List.length_cons, bp_succ]
    grind
theorem nv_snoc (l : List Int) (d : Int) : nv (l ++ [d]) = nv l + bp l.length * d := by rw [nv_append]; simp [nv]
theorem nv_zeros (n : Nat) : nv (List.replicate n 0) = 0 := by
  induction n with
  | zero => rfl
  | succ n ih => rw [List.replicate_succ, nv_cons, ih]; rfl
theorem Dig.nil : Dig [] := by intro x hx; cases hx
theorem Dig.cons {d : Int} {l : List Int} (h : Dig (d :: l)) : (0 ≤ d ∧ d < 4294967296) ∧ Dig l := ⟨h d List.mem_cons_self, fun x hx => h x (List.mem_cons_of_mem _ hx)⟩
theorem Dig.mk {d : Int} {l : List Int} (h0 : 0 ≤ d) (h1 : d < 4294967296) (h : Dig l) : Dig (d :: l) := by
  intro x hx
  rcases List.mem_cons.mp hx with rfl | hx
  · exact ⟨h0, h1⟩
  · exact h x hx
theorem Dig.append {l l' : List Int} (h : Dig l) (h' : Dig l') : Dig (l ++ l') := by
  intro x hx
  rcases List.mem_append.mp hx with hx | hx
  · exact h x hx
  · exact h' x hx
theorem Dig.one {d : Int} (h0 : 0 ≤ d) (h1 : d < 4294967296) : Dig [d] := Dig.mk h0 h1 Dig.nil
theorem Dig.take {l : List Int} (h : Dig l) (n : Nat) : Dig (l.take n) := fun x hx => h x (List.mem_of_mem_take hx)
theorem Dig.drop {l : List Int} (h : Dig l) (n : Nat) : Dig (l.drop n) := fun x hx => h x (List.mem_of_mem_drop hx)
theorem Dig.zeros (n : Nat) : Dig (List.replicate n 0) := by
  intro x hx
  rw [(List.mem_replicate.mp hx).2]
  decide
theorem Dig.set {l : List Int} (h : Dig l) (i : Nat) {v : Int} (h0 : 0 ≤ v) (h1 : v < 4294967296) : Dig (l.set i v) := by
  intro x hx
  rcases List.mem_or_eq_of_mem_set hx with hx | hx
  · exact h x hx
  · rw [hx]; exact ⟨h0, h1⟩
theorem Dig.get {l : List Int} (h : Dig l) {i : Nat} (hi : i < l.length) : 0 ≤ l[i] ∧ l[i] < 4294967296 := h _ (List.getElem_mem hi)
theorem nv_bounds {l : List Int} (h : Dig l) : 0 ≤ nv l ∧ nv l < bp l.length := by
  induction l with
  | nil => exact ⟨Int.le_refl _, by rw [List.length_nil, bp_zero]; decide⟩
  | cons d l ih =>
    obtain ⟨⟨h0, h1⟩, h2⟩ := h.cons
    obtain ⟨a, b⟩ := ih h2
    rw [nv_cons, List.length_cons, bp_succ]
    omega
theorem nv_take_drop (l : List Int) (n : Nat) (h : n ≤ l.length) : nv l = nv (l.take n) + bp n * nv (l.drop n) := by
  have := nv_append (l.take n) (l.drop n)
  rwa [List.take_append_drop, List.length_take, Nat.min_eq_left h] at this
theorem nv_set {l : List Int} {i : Nat} (h : i < l.length) (v : Int) : nv (l.set i v) = nv l + bp i * (v - l[i]) := by
  induction l generalizing i with
  | nil => simp at h
  | cons d l ih =>
    cases i with
    | zero => simp [nv, bp_zero]; omega
    | succ i =>
      have hi : i < l.length := by simpa using h
      rw [List.set_cons_succ, nv_cons, nv_cons, ih hi, bp_succ]
      simp only [List.getElem_cons_succ]
      grind
theorem nv_take_succ {l : List Int} {i : Nat} (h : i < l.length) : nv (l.take (i + 1)) = nv (l.take i) + bp i * l[i] := by
  rw [List.take_succ_eq_append_getElem h, nv_snoc, List.length_take, Nat.min_eq_left (by omega)]
theorem nv_drop {l : List Int} {i : Nat} (h : i < l.length) : nv (l.drop i) = l[i] + 4294967296 * nv (l.drop (i + 1)) := by
  rw [List.drop_eq_getElem_cons h, nv_cons]
theorem nv_inj {l l' : List Int} (h : Dig l) (h' : Dig l') (hl : l.length = l'.length) (e : nv l = nv l') : l = l' := by
  induction l generalizing l' with
  | nil => cases l' with
    | nil => rfl
    | cons d l => simp at hl
  | cons d l ih =>
    cases l' with
    | nil => simp at hl
    | cons d' l' =>
      obtain ⟨⟨a, b⟩, c⟩ := h.cons
      obtain ⟨⟨a', b'⟩, c'⟩ := h'.cons
      rw [nv_cons, nv_cons] at e
      have e1 : d = d' := by omega
      subst e1
      rw [ih c c' (by simpa using hl) (by omega)]
/-- Nothing but the number: no nought on top. -/
def Top (l : List Int) : Prop := l ≠ [] → bp (l.length - 1) ≤ nv l
theorem Top.length_le {l : List Int} (h : Top l) {n : Nat} (hn : nv l < bp n) : l.length ≤ n := by
  by_cases he : l = []
  · subst he; simp
  · have h1 := h he
    refine Decidable.byContradiction fun hc => ?_
    have := bp_mono (show n ≤ l.length - 1 by omega)
    omega
theorem Top.inj {l l' : List Int} (h : Dig l) (h' : Dig l') (t : Top l) (t' : Top l') (e : nv l = nv l') : l = l' := by
  have b := nv_bounds h
  have b' := nv_bounds h'
  have h1 := t.length_le (n := l'.length) (by omega)
  have h2 := t'.length_le (n := l.length) (by omega)
  exact nv_inj h h' (by omega) e
theorem Top.of_last {l : List Int} (h : Dig l) (hl : 0 < l.length) (hz : l[l.length - 1]'(by omega) ≠ 0) : Top l := by
  intro _
  have h1 := nv_take_succ (l := l) (i := l.length - 1) (by omega)
  rw [show l.length - 1 + 1 = l.length by omega, List.take_length] at h1
  have h2 := (nv_bounds (h.take (l.length - 1))).1
  have h3 := h.get (i := l.length - 1) (by omega)
  have h4 := bp_pos (l.length - 1)
  have : bp (l.length - 1) * 1 ≤ bp (l.length - 1) * l[l.length - 1] := Int.mul_le_mul_of_nonneg_left (by omega) (by omega)
  omega
theorem nv_pos {l : List Int} (t : Top l) (he : l ≠ []) : 0 < nv l := by
  have := t he
  have := bp_pos (l.length - 1)
  omega
/-- A nought on top may go. -/
theorem nv_last_zero {l : List Int} (hl : 0 < l.length) (hz : l[l.length - 1]'(by omega) = 0) : nv (l.take (l.length - 1)) = nv l := by
  have h1 := nv_take_succ (l := l) (i := l.length - 1) (by omega)
  rw [show l.length - 1 + 1 = l.length by omega, List.take_length, hz] at h1
  omega
/-- A number's digits, divided by P, where P times Q is 2^32. -/
def dn (P Q : Int) : List Int → List Int
  | [] => []
  | a :: l => (a / P + (l.headD 0 % P) * Q) :: dn P Q l
theorem dn_length (P Q : Int) (l : List Int) : (dn P Q l).length = l.length := by
  induction l with
  | nil => rfl
  | cons a l ih => simp [dn, ih]
theorem dn_nv {P Q : Int} (hP : 0 < P) (hPQ : P * Q = 4294967296) (l : List Int) : nv (dn P Q l) * P + l.headD 0 % P = nv l := by
  induction l with
  | nil => simp [dn, nv]
  | cons a l ih =>
    have h1 := Int.emod_add_mul_ediv a P
    simp only [dn, nv_cons, List.headD_cons]
    rw [← ih]
    grind
theorem dn_get {P Q : Int} {l : List Int} {i : Nat} (h : i < l.length) : (dn P Q l)[i]'(by rw [dn_length]; exact h) = l[i] / P + (if h2 : i + 1 < l.length then l[i + 1] % P else 0) * Q := by
  induction l generalizing i with
  | nil => simp at h
  | cons a l ih =>
    cases i with
    | zero =>
      cases l with
      | nil => simp [dn]
      | cons b l => simp [dn]
    | succ i =>
      have hi : i < l.length := by simpa using h
      simp only [dn, List.getElem_cons_succ, ih hi]
      by_cases h2 : i + 1 < l.length
      · rw [dif_pos h2, dif_pos (by simpa using h2)]
      · rw [dif_neg h2, dif_neg (by simpa using h2)]
theorem dn_dig {P Q : Int} (hP : 0 < P) (hQ : 0 < Q) (hPQ : P * Q = 4294967296) {l : List Int} (h : Dig l) : Dig (dn P Q l) := by
  induction l with
  | nil => exact Dig.nil
  | cons a l ih =>
    obtain ⟨⟨h0, h1⟩, h2⟩ := h.cons
    have d0 := Int.ediv_nonneg h0 (Int.le_of_lt hP)
    have d1 : a / P < Q := Int.ediv_lt_of_lt_mul hP (by rw [Int.mul_comm]; omega)
    have r0 := Int.emod_nonneg (l.headD 0) (show P ≠ 0 by omega)
    have r1 := Int.emod_lt_of_pos (l.headD 0) hP
    have m0 := Int.mul_nonneg r0 (Int.le_of_lt hQ)
    have m1 : (l.headD 0 % P) * Q ≤ (P - 1) * Q := Int.mul_le_mul_of_nonneg_right (by omega) (Int.le_of_lt hQ)
    have m2 : (P - 1) * Q = 4294967296 - Q := by grind
    exact Dig.mk (by omega) (by omega) (ih h2)
/-- Of a list the first i stand, the others are noughts. -/
def stp (L : List Int) (i : Nat) : List Int := L.take i ++ List.replicate (L.length - i) 0
theorem stp_length {L : List Int} {i : Nat} (h : i ≤ L.length) : (stp L i).length = L.length := by simp [stp]; omega
theorem stp_zero (L : List Int) : stp L 0 = List.replicate L.length 0 := by simp [stp]
theorem stp_full (L : List Int) : stp L L.length = L := by simp [stp]
theorem stp_set {L : List Int} {i : Nat} (h : i < L.length) : (stp L i).set i L[i] = stp L (i + 1) := by
  apply List.ext_getElem
  · rw [List.length_set, stp_length (by omega), stp_length (by omega)]
  · intro x h1 h2
    have hx : x < L.length := by rw [stp_length (by omega)] at h2; exact h2
    have get : ∀ j, (hj : j ≤ L.length) → ∀ hh : x < (stp L j).length, (stp L j)[x] = if x < j then L[x] else 0 := by
      intro j hj hh
      simp only [stp]
      by_cases c : x < j
      · rw [if_pos c, List.getElem_append_left (by simp; omega)]
        simp
      · rw [if_neg c, List.getElem_append_right (by simp; omega)]
        simp
    rw [List.getElem_set, get (i + 1) (by omega) h2]
    by_cases e : i = x
    · subst e
      rw [if_pos rfl, if_pos (by omega)]
    · rw [if_neg e, get i (by omega) _]
      by_cases c : x < i
      · rw [if_pos c, if_pos (by omega)]
      · rw [if_neg c, if_neg (by omega)]
end Gim
namespace Gim
open Go Go.RowKit Go.Proofs.YtlhpejbmjbcmaaaDoorW.PrintWords Go.Proofs.YtlhpejbmjbcmaaaDoorW.PrintLast Go.Proofs.YtlhpejbmjbcmaaaDoorW.PrintMore Go.Proofs.YtlhpejbmjbcmaaaDoor.F
set_option linter.unusedVariables false

theorem wu32_mod (x : Int) : IntKind.u32.wrap x = x % 4294967296 := by simp [IntKind.wrap, IntKind.bits, IntKind.signed]
theorem wraps_u32 (n : Int) (h₀ : 0 ≤ n) (h₁ : n < 2 ^ 32) : IntKind.u32.wrap n = n := by
  rw [wu32_mod]; have : n < 4294967296 := by simpa using h₁
  omega
theorem u32_or (i : Nat) {x y : Int} (hx₀ : 0 ≤ x) (hx : x % 2 ^ i = 0) (hx₁ : x < 4294967296) (hy₀ : 0 ≤ y) (hy : y < 2 ^ i) (hy₁ : y < 4294967296) : bits .or .u32 x y = x + y :=
  bits_join .u32 32 (by decide) wraps_u32 i x y hx₀ hx (by simpa using hx₁) hy₀ hy (by simpa using hy₁)
theorem shl_u32 {x n : Int} (hn : 0 ≤ n) (hn' : n ≤ 32) : shl .u32 x n = x * p2 n % 4294967296 := by
  unfold shl p2
  rw [wu32_mod, Nat.min_eq_left (by show n.toNat ≤ 32; omega)]
theorem shr_u32 {x n : Int} (hn : 0 ≤ n) (hn' : n ≤ 32) : shr .u32 x n = x / p2 n := by
  unfold shr p2
  rw [Nat.min_eq_left (by show n.toNat ≤ 32; omega)]
theorem p2_32 : p2 32 = 4294967296 := by decide
theorem p2_split {s : Int} (h0 : 0 ≤ s) (h1 : s ≤ 32) : p2 s * p2 (32 - s) = 4294967296 := by
  rw [← p2_add h0 (by omega), show s + (32 - s) = 32 by omega, p2_32]
theorem rd_nat {l : List Int} {i : Nat} (h : i < l.length) : rd l (i : Int) = l[i] := by
  unfold rd; simp [List.getD_eq_getElem?_getD, h]
theorem rd_zero {l : List Int} (h : 0 < l.length) : rd l 0 = l[0] := rd_nat (i := 0) h
theorem p2_mod {s : Int} (h0 : 0 ≤ s) (x : Int) : (x * p2 s) % 2 ^ s.toNat = 0 := Int.mul_emod_left _ _

section
variable {m : List Int} {s : Int} (hm : Dig m) (h0 : 0 < s) (h1 : s < 32) (hl : m.length ≤ 1000000)
include hm h0 h1 hl
theorem down_l0 : ∀ n i : Nat, m.length - i = n → i ≤ m.length → ∀ r, Ev (fun K => dyad_down.l0 K m s (dn (p2 s) (p2 (32 - s)) m) m.length m.length) r →
    Ev (fun K => dyad_down.l0 K m s (stp (dn (p2 s) (p2 (32 - s)) m) i) m.length i) r := by
  intro n
  induction n with
  | zero =>
    intro i e1 e2 r hr
    obtain rfl : i = m.length := by omega
    have := stp_full (dn (p2 s) (p2 (32 - s)) m)
    rw [dn_length] at this
    rw [this]; exact hr
  | succ n ih =>
    intro i e1 e2 r hr
    have hi : i < m.length := by omega
    have hP := p2_pos s
    have hQ := p2_pos (32 - s)
    have hPQ := p2_split (s := s) (by omega) (by omega)
    have hD := dn_length (p2 s) (p2 (32 - s)) m
    have sl : (stp (dn (p2 s) (p2 (32 - s)) m) i).length = m.length := by rw [stp_length (by omega), hD]
    have hg := dn_get (P := p2 s) (Q := p2 (32 - s)) hi
    have hset := stp_set (L := dn (p2 s) (p2 (32 - s)) m) (i := i) (by omega)
    have hrec := ih (i + 1) (by omega) (by omega) r hr
    have hd := hm.get hi
    refine Ev.succ ?_
    simp only [dyad_down.l0]
    refine Ev.pos (by omega) (Ev.pos (by omega) (Ev.pos (by omega) (Ev.pos (by omega) (Ev.pos (by omega) ?_))))
    rw [rd_nat hi, shr_u32 (by omega) (by omega), Int.toNat_natCast, w64 (x := (i : Int) + 1) (by omega) (by omega)]
    by_cases h2 : i + 1 < m.length
    · refine Ev.pos (by omega) (Ev.pos (by omega) ?_)
      rw [w64 (x := 32 - s) (by omega) (by omega)]
      refine Ev.pos (by omega) ?_
      have hd2 := hm.get h2
      have e3 : rd m ((i : Int) + 1) = m[i + 1] := rd_nat (i := i + 1) h2
      have e4 : rd ((stp (dn (p2 s) (p2 (32 - s)) m) i).set i (m[i] / p2 s)) (i : Int) = m[i] / p2 s := by
        rw [rd_nat (by rw [List.length_set]; omega)]; simp
      have e5 : m[i + 1] * p2 (32 - s) % 4294967296 = (m[i + 1] % p2 s) * p2 (32 - s) := by
        rw [← hPQ, Int.mul_comm m[i + 1], Int.mul_comm (p2 s), Int.mul_emod_mul_of_pos _ _ hQ, Int.mul_comm]
      have d0 := Int.ediv_nonneg hd.1 (Int.le_of_lt hP)
      have d1 : m[i] / p2 s < p2 (32 - s) := Int.ediv_lt_of_lt_mul hP (by rw [Int.mul_comm]; omega)
      have r0 := Int.emod_nonneg m[i + 1] (show p2 s ≠ 0 by omega)
      have r1 := Int.emod_lt_of_pos m[i + 1] hP
      have m0 := Int.mul_nonneg r0 (Int.le_of_lt hQ)
      have m1 : (m[i + 1] % p2 s) * p2 (32 - s) ≤ (p2 s - 1) * p2 (32 - s) := Int.mul_le_mul_of_nonneg_right (by omega) (Int.le_of_lt hQ)
      have m2 : (p2 s - 1) * p2 (32 - s) = 4294967296 - p2 (32 - s) := by grind
      rw [e3, e4, shl_u32 (by omega) (by omega), e5, bits_or_comm, u32_or (32 - s).toNat m0 (p2_mod (by omega) _) (by omega) d0 d1 (by omega), List.set_set]
      rw [dif_pos h2] at hg
      rw [Int.add_comm, ← hg, hset]
      exact hrec
    · refine Ev.neg (by omega) ?_
      rw [dif_neg h2, Int.zero_mul, Int.add_zero] at hg
      rw [← hg, hset]
      exact hrec
/-- Down: a number divided by 2^s, which divides it. -/
theorem down_ev (hT : Top m) (hne : m ≠ []) (hd : nv m % p2 s = 0) : ∃ r, Ev (fun K => dyad_down.f K m s) r ∧ Dig r ∧ Top r ∧ nv r * p2 s = nv m ∧ r.length ≤ m.length ∧ r ≠ [] := by
  have hP := p2_pos s
  have hQ := p2_pos (32 - s)
  have hPQ := p2_split (s := s) (by omega) (by omega)
  have hD := dn_length (p2 s) (p2 (32 - s)) m
  have hpos := nv_pos hT hne
  have hlen : 0 < m.length := List.length_pos_iff.mpr hne
  have hdd := dn_dig hP hQ hPQ hm
  have hv : nv (dn (p2 s) (p2 (32 - s)) m) * p2 s = nv m := by
    have h2 := dn_nv hP hPQ m
    have h3 : m.headD 0 % p2 s = 0 := by
      rw [← h2, Int.add_emod, Int.mul_emod_left, Int.zero_add, Int.emod_emod_of_dvd _ (Int.dvd_refl _), Int.emod_emod_of_dvd _ (Int.dvd_refl _)] at hd
      exact hd
    omega
  have hvpos : 0 < nv (dn (p2 s) (p2 (32 - s)) m) := by
    refine Decidable.byContradiction fun hc => ?_
    have := Int.mul_le_mul_of_nonneg_right (show nv (dn (p2 s) (p2 (32 - s)) m) ≤ 0 by omega) (Int.le_of_lt hP)
    omega
  have start : ∀ r, Ev (fun K => dyad_down.l0 K m s (dn (p2 s) (p2 (32 - s)) m) m.length m.length) r → Ev (fun K => dyad_down.f K m s) r := by
    intro r hr
    unfold dyad_down.f
    have p1 : (m.length : Int) ≤ 70368744177664 := by omega
    refine Ev.pos (Int.natCast_nonneg _) (Ev.pos p1 ?_)
    have := down_l0 hm h0 h1 hl m.length 0 (by omega) (by omega) r hr
    rw [stp_zero, hD] at this
    rw [Int.toNat_natCast]
    exact this
  generalize hL : dn (p2 s) (p2 (32 - s)) m = L at *
  by_cases hz : L[L.length - 1]'(by omega) = 0
  · refine ⟨L.take (L.length - 1), start _ (Ev.succ ?_), hdd.take _, ?_, ?_, ?_, ?_⟩
    · simp only [dyad_down.l0]
      refine Ev.neg (by omega) (Ev.pos (by omega) ?_)
      rw [w64 (by omega) (by omega)]
      have e : ((L.length : Int) - 1) = ((L.length - 1 : Nat) : Int) := by omega
      rw [e]
      refine Ev.pos (by omega) (Ev.pos (by omega) (Ev.pos (by rw [rd_nat (by omega)]; exact hz) (Ev.pos (by omega) (Ev.pos (by omega) ?_))))
      rw [Int.toNat_natCast]
      exact Ev.now _
    · intro hne2
      have e2 := nv_last_zero (l := L) (by omega) hz
      have h3 := hT hne
      rw [List.length_take, Nat.min_eq_left (by omega), e2]
      have hn2 : 2 ≤ m.length := by
        refine Decidable.byContradiction fun hc => ?_
        apply hne2
        rw [show L.length - 1 = 0 by omega, List.take_zero]
      have h4 : bp (m.length - 1) = 4294967296 * bp (m.length - 2) := by rw [← bp_succ, show m.length - 2 + 1 = m.length - 1 by omega]
      have h5 := bp_pos (m.length - 2)
      rw [show L.length - 1 - 1 = m.length - 2 by omega]
      refine Decidable.byContradiction fun hc => ?_
      have h6 := Int.mul_le_mul_of_nonneg_right (show nv L ≤ bp (m.length - 2) - 1 by omega) (Int.le_of_lt hP)
      have h7 : p2 s ≤ 4294967296 := by rw [← p2_32]; exact p2_le (by omega)
      have h8 := Int.mul_le_mul_of_nonneg_left h7 (Int.le_of_lt h5)
      have h9 : (bp (m.length - 2) - 1) * p2 s = bp (m.length - 2) * p2 s - p2 s := by grind
      omega
    · rw [nv_last_zero (by omega) hz]; exact hv
    · rw [List.length_take]; omega
    · intro hh
      have := nv_last_zero (l := L) (by omega) hz
      rw [hh] at this
      simp [nv] at this
      omega
  · refine ⟨L, start _ (Ev.succ ?_), hdd, Top.of_last hdd (by omega) hz, hv, by omega, fun hh => by rw [hh] at hvpos; simp [nv] at hvpos⟩
    simp only [dyad_down.l0]
    refine Ev.neg (by omega) (Ev.pos (by omega) ?_)
    rw [w64 (by omega) (by omega)]
    have e : ((L.length : Int) - 1) = ((L.length - 1 : Nat) : Int) := by omega
    rw [e]
    exact Ev.pos (by omega) (Ev.pos (by omega) (Ev.neg (by rw [rd_nat (by omega)]; exact hz) (Ev.now _)))
end

/-- A number in its only form: nought, or odd digits with no nought on top. -/
def Can (neg : Bool) (m : List Int) (e : Int) : Prop := Dig m ∧ Top m ∧ ((m = [] ∧ neg = false ∧ e = 0) ∨ (m ≠ [] ∧ nv m % 2 = 1))
/-- What it stands for. -/
def nval (neg : Bool) (m : List Int) (e : Int) : Rat := if neg then -((nv m : Rat) * pw e) else (nv m : Rat) * pw e
theorem ctz_spec {x : Int} (h0 : 0 < x) (h1 : x < 4294967296) : ∃ s : Nat, bits_TrailingZeros32.f x = some (s : Int) ∧ s < 32 ∧ ∃ q, x = p2 s * (2 * q + 1) := by
  obtain ⟨a, rfl⟩ := Int.eq_ofNat_of_zero_le (Int.le_of_lt h0)
  have ha : a ≠ 0 := by omega
  obtain ⟨q, e, hs⟩ := Lib.ctzFrom_spec 32 a (by omega) (by omega)
  refine ⟨Lib.ctzFrom 32 a, ?_, hs, (q : Int), ?_⟩
  · have ha2 : a < 4294967296 := by omega
    obtain ⟨hlow, hk⟩ := Lib.lowest_bit 32 a ha ha2
    obtain ⟨hi, htab⟩ := Lib.deBruijn32_at _ hk
    have key := Go.Proofs.tz32_key a (2 ^ Lib.ctz 32 a) ha2 ha hlow
    have hc : Lib.ctz 32 a = Lib.ctzFrom 32 a := by unfold Lib.ctz; rw [if_neg ha]
    rw [hc] at key hi htab hk
    clear hlow hc
    obtain ⟨idx, hidx⟩ : ∃ i, i = 2 ^ Lib.ctzFrom 32 a * 125613361 % 4294967296 / 134217728 := ⟨_, rfl⟩
    rw [← hidx] at key hi htab
    clear hidx
    obtain ⟨c, hcc⟩ : ∃ c, c = Lib.ctzFrom 32 a := ⟨_, rfl⟩
    rw [← hcc] at htab ⊢
    have hl : idx < Lib.deBruijn32tab.length := hi
    have hv : rd tab32 (idx : Int) = ((c : Nat) : Int) := by
      have e : tab32 = Lib.deBruijn32tab.map Int.ofNat := rfl
      unfold rd
      rw [List.getD_eq_getElem?_getD, List.getElem?_eq_getElem hl] at htab
      rw [e, Int.toNat_natCast, List.getD_eq_getElem?_getD, List.getElem?_map, List.getElem?_eq_getElem hl]
      exact congrArg Int.ofNat htab
    have i0 : (0 : Int) ≤ (idx : Int) := Int.natCast_nonneg _
    have i1 : (idx : Int) < 32 := by omega
    unfold bits_TrailingZeros32.f
    rw [if_neg (by omega), key, if_pos i0, if_pos i1, hv, w64 (by omega) (by omega)]
  · have : ((a : Nat) : Int) = ((2 ^ Lib.ctzFrom 32 a * (2 * q + 1) : Nat) : Int) := congrArg _ e
    rw [this]
    unfold p2
    push_cast
    rw [Int.toNat_natCast]
theorem nv_head_mod {l : List Int} (h : 0 < l.length) : ∃ q, nv l = l[0] + 4294967296 * q := by
  cases l with
  | nil => simp at h
  | cons a l => exact ⟨nv l, rfl⟩

section
variable {neg : Bool} {l : List Int} {e : Int} (hl : Dig l) (hn : l.length ≤ 1000000) (he0 : -1000000000 ≤ e) (he1 : e ≤ 1000000000)
include hl hn he0 he1
theorem trim_l1 (ht : Top l) (hne : l ≠ []) : ∀ n k : Nat, l.length - k = n → k < l.length → nv (l.take k) = 0 →
    ∃ n' m' e', Ev (fun K => dyad_trim.l1 K neg l e k) (n', m', e') ∧ Can n' m' e' ∧ nval n' m' e' = nval neg l e := by
  intro n
  induction n with
  | zero => intro k e1 e2; omega
  | succ n ih =>
    intro k e1 e2 hz
    by_cases h0 : l[k] = 0
    · have hk2 : k + 1 < l.length := by
        refine Decidable.byContradiction fun hc => ?_
        have h1 := nv_take_succ e2
        rw [h0, hz, show k + 1 = l.length by omega, List.take_length] at h1
        have := nv_pos ht hne
        omega
      obtain ⟨n', m', e', ev, c, v⟩ := ih (k + 1) (by omega) hk2 (by rw [nv_take_succ e2, h0, hz]; simp)
      refine ⟨n', m', e', Ev.succ ?_, c, v⟩
      simp only [dyad_trim.l1]
      refine Ev.pos (by omega) (Ev.pos (by omega) (Ev.pos (by rw [rd_nat e2]; exact h0) ?_))
      rw [w64 (by omega) (by omega)]
      exact ev
    · have hd := hl.get e2
      obtain ⟨s, hs, hs32, q, hq⟩ := ctz_spec (x := l[k]) (by omega) hd.2
      have hY : Dig (l.drop k) := hl.drop k
      have hYl : (l.drop k).length = l.length - k := List.length_drop
      have hY0 : (l.drop k)[0]'(by omega) = l[k] := by simp
      have hYne : l.drop k ≠ [] := List.length_pos_iff.mp (by omega)
      have hsplit := nv_take_drop l k (by omega)
      rw [hz, Int.zero_add] at hsplit
      have hbk := bp_pos k
      have hYt : Top (l.drop k) := by
        intro _
        have h1 := ht hne
        rw [hYl]
        have h2 : bp (l.length - 1) = bp k * bp (l.length - k - 1) := by rw [← bp_add, show k + (l.length - k - 1) = l.length - 1 by omega]
        rw [h2, hsplit] at h1
        exact Int.le_of_mul_le_mul_left h1 hbk
      obtain ⟨t, hq2⟩ := nv_head_mod (l := l.drop k) (by omega)
      rw [hY0] at hq2
      have hval : ∀ (r : List Int) (x : Int), nv r * p2 s = nv (l.drop k) → (x = e + 32 * k + s) → nval neg r x = nval neg l e := by
        intro r x h1 h2
        have h3 : (nv r : Rat) * pw x = (nv l : Rat) * pw e := by
          rw [hsplit, ← h1, h2, pw_add, pw_add, ← bp_pw, pw_p2 (a := (s : Int)) (by omega)]
          push_cast
          grind
        unfold nval
        rw [h3]
      have step : ∀ ρ : Bool × List Int × Int, Ev (fun K => if (s : Int) > 0 then (dyad_down.f K (l.drop k) (s : Int)).bind (fun t130 => some (neg, t130, wrap64 (wrap64 (e + wrap64 (32 * (k : Int))) + (s : Int)))) else some (neg, l.drop k, wrap64 (e + wrap64 (32 * (k : Int))))) ρ →
          Ev (fun K => dyad_trim.l1 K neg l e k) ρ := by
        intro ρ h
        refine Ev.succ ?_
        simp only [dyad_trim.l1]
        refine Ev.pos (by omega) (Ev.pos (by omega) (Ev.neg (by rw [rd_nat e2]; exact h0) (Ev.pos (by omega) ?_)))
        rw [Int.toNat_natCast]
        refine Ev.pos (by omega) ?_
        rw [rd_zero (by omega), hY0]
        exact Ev.call hs h
      have w1 : wrap64 (e + wrap64 (32 * (k : Int))) = e + 32 * k := by rw [w64 (x := 32 * (k : Int)) (by omega) (by omega), w64 (by omega) (by omega)]
      by_cases hs0 : s = 0
      · subst hs0
        have hp0 : p2 ((0 : Nat) : Int) = 1 := p2_0
        rw [hp0, Int.one_mul] at hq
        refine ⟨neg, l.drop k, e + 32 * k, step _ (Ev.neg (by omega) ?_), ⟨hY, hYt, .inr ⟨hYne, by rw [hq2, hq]; omega⟩⟩, hval _ _ (by rw [hp0, Int.mul_one]) (by omega)⟩
        rw [w1]
        exact Ev.now _
      · have hdiv : nv (l.drop k) % p2 s = 0 := by
          have h32 : (4294967296 : Int) = p2 s * p2 (32 - s) := (p2_split (by omega) (by omega)).symm
          rw [hq2, hq, h32, Int.mul_assoc, ← Int.mul_add]
          exact Int.mul_emod_right _ _
        obtain ⟨r, ev, rd_, rt, rv, rl, rne⟩ := down_ev (m := l.drop k) (s := (s : Int)) hY (by omega) (by omega) (by omega) hYt hYne hdiv
        refine ⟨neg, r, e + 32 * k + s, step _ (Ev.pos (by omega) (Ev.bind ev ?_)), ⟨rd_, rt, .inr ⟨rne, ?_⟩⟩, hval _ _ rv rfl⟩
        · rw [w1, w64 (by omega) (by omega)]
          exact Ev.now _
        · have hP := p2_pos s
          have h32 : (4294967296 : Int) = p2 s * (2 * p2 (32 - s - 1)) := by
            rw [← p2_split (s := (s : Int)) (by omega) (by omega), ← p2_succ (by omega), show (32 : Int) - s - 1 + 1 = 32 - s by omega]
          have h4 : nv r = 2 * q + 1 + 2 * (p2 (32 - s - 1) * t) := by
            have h5 : nv r * p2 s = (2 * q + 1 + 2 * (p2 (32 - s - 1) * t)) * p2 s := by
              rw [rv, hq2, hq, h32]; grind
            exact Int.eq_of_mul_eq_mul_right (by omega) h5
          omega
/-- Trim: the only form of a number. -/
theorem trim_ev : ∃ n' m' e', Ev (fun K => dyad_trim.f K neg l e) (n', m', e') ∧ Can n' m' e' ∧ nval n' m' e' = nval neg l e := by
  have key : ∀ n k : Nat, k = n → k ≤ l.length → nv (l.take k) = nv l → ∃ n' m' e', Ev (fun K => dyad_trim.l0 K neg l e k) (n', m', e') ∧ Can n' m' e' ∧ nval n' m' e' = nval neg l e := by
    intro n
    induction n with
    | zero =>
      intro k e1 e2 hv
      subst e1
      refine ⟨false, [], 0, Ev.succ ?_, ⟨Dig.nil, fun h => absurd rfl h, .inl ⟨rfl, rfl, rfl⟩⟩, ?_⟩
      · simp only [dyad_trim.l0]
        refine Ev.neg (by omega) (Ev.succ ?_)
        simp only [dyad_trim.j1]
        exact Ev.pos (by omega) (Ev.pos (by omega) (Ev.pos (by omega) (Ev.now _)))
      · have h0 : nv l = 0 := by rw [← hv]; simp [nv]
        unfold nval
        rw [h0]
        cases neg <;> simp [nv]
    | succ n ih =>
      intro k e1 e2 hv
      subst e1
      have hi : n < l.length := by omega
      by_cases h0 : l[n] = 0
      · obtain ⟨n', m', e', ev, c, v⟩ := ih n rfl (by omega) (by rw [← hv, nv_take_succ hi, h0]; simp)
        refine ⟨n', m', e', Ev.succ ?_, c, v⟩
        simp only [dyad_trim.l0]
        refine Ev.pos (by omega) ?_
        have e : wrap64 (((n + 1 : Nat) : Int) - 1) = (n : Int) := by rw [w64 (by omega) (by omega)]; omega
        rw [e]
        exact Ev.pos (by omega) (Ev.pos (by omega) (Ev.pos (by rw [rd_nat hi]; exact h0) ev))
      · have hlt : (l.take (n + 1)).length = n + 1 := by rw [List.length_take]; omega
        have hlast : (l.take (n + 1))[(l.take (n + 1)).length - 1]'(by omega) = l[n] := by
          rw [List.getElem_take]; congr 1; omega
        have hT : Top (l.take (n + 1)) := Top.of_last (hl.take _) (by omega) (by rw [hlast]; exact h0)
        obtain ⟨n', m', e', ev, c, v⟩ := trim_l1 (neg := neg) (l := l.take (n + 1)) (e := e) (hl.take _) (by omega) he0 he1 hT (List.length_pos_iff.mp (by omega)) (n + 1) 0 (by omega) (by omega) (by simp [nv])
        refine ⟨n', m', e', Ev.succ ?_, c, ?_⟩
        · simp only [dyad_trim.l0]
          refine Ev.pos (by omega) ?_
          have e : wrap64 (((n + 1 : Nat) : Int) - 1) = (n : Int) := by rw [w64 (by omega) (by omega)]; omega
          rw [e]
          refine Ev.pos (by omega) (Ev.pos (by omega) (Ev.neg (by rw [rd_nat hi]; exact h0) (Ev.succ ?_)))
          simp only [dyad_trim.j1]
          refine Ev.pos (by omega) (Ev.pos (by omega) (Ev.neg (by omega) ?_))
          rw [Int.toNat_natCast]
          exact ev
        · rw [v]; unfold nval; rw [hv]
  have := key l.length l.length rfl (Nat.le_refl _) (by rw [List.take_length])
  unfold dyad_trim.f
  exact this
end

theorem bp_p2 (n : Nat) : bp n = p2 (32 * n) := by
  have e : (32 * (n : Int)).toNat = 32 * n := by omega
  unfold bp p2
  rw [e, Int.pow_mul]; rfl
section
variable {m : List Int} (hm : Dig m) (hl : m.length ≤ 1000000) {q : Nat} {s : Int} (hq : q ≤ 1000000) (s0 : 0 ≤ s) (s1 : s < 32)
include hm hl hq s0 s1
theorem up_l0 : ∀ n i : Nat, m.length - i = n → i ≤ m.length → ∀ (out : List Int) (c : Int), Dig out → out.length = q + i → 0 ≤ c → c < p2 s →
    nv out + bp (q + i) * c = bp q * (p2 s * nv (m.take i)) →
    ∃ r, Ev (fun K => dyad_up.l0 K out s c m m.length i) r ∧ Dig r ∧ r.length = q + m.length + 1 ∧ nv r = bp q * (p2 s * nv m) := by
  intro n
  induction n with
  | zero =>
    intro i e1 e2 out c hd hlen c0 c1 hv
    obtain rfl : i = m.length := by omega
    have hp32 : p2 s ≤ 4294967296 := by rw [← p2_32]; exact p2_le (by omega)
    refine ⟨out ++ [c], Ev.succ ?_, hd.append (Dig.one c0 (by omega)), by simp [hlen] <;> omega, ?_⟩
    · simp only [dyad_up.l0]
      have p1 : out.length < 35184372088832 := Nat.lt_of_le_of_lt (show out.length ≤ 2000000 by omega) (by decide)
      exact Ev.neg (by omega) (Ev.pos p1 (Ev.now _))
    · rw [nv_snoc, hlen, hv, List.take_length]
  | succ n ih =>
    intro i e1 e2 out c hd hlen c0 c1 hv
    have hi : i < m.length := by omega
    have hP := p2_pos s
    have hQ := p2_pos (32 - s)
    have hPQ := p2_split (s := s) (by omega) (by omega)
    have hx := hm.get hi
    have hp32 : p2 s ≤ 4294967296 := by rw [← p2_32]; exact p2_le (by omega)
    have d0 := Int.ediv_nonneg hx.1 (Int.le_of_lt hQ)
    have d1 : m[i] / p2 (32 - s) < p2 s := Int.ediv_lt_of_lt_mul hQ (by omega)
    have e5 : m[i] * p2 s % 4294967296 = (m[i] % p2 (32 - s)) * p2 s := by
      rw [← hPQ, Int.mul_comm m[i], Int.mul_emod_mul_of_pos _ _ hP, Int.mul_comm]
    have hdm := Int.emod_add_mul_ediv m[i] (p2 (32 - s))
    have r0 := Int.emod_nonneg m[i] (show p2 (32 - s) ≠ 0 by omega)
    have r1 := Int.emod_lt_of_pos m[i] hQ
    have m0 := Int.mul_nonneg r0 (Int.le_of_lt hP)
    have m1 : (m[i] % p2 (32 - s)) * p2 s ≤ (p2 (32 - s) - 1) * p2 s := Int.mul_le_mul_of_nonneg_right (by omega) (Int.le_of_lt hP)
    have m2 : (p2 (32 - s) - 1) * p2 s = 4294967296 - p2 s := by grind
    obtain ⟨r, ev, rd_, rl, rv⟩ := ih (i + 1) (by omega) (by omega) (out ++ [(m[i] % p2 (32 - s)) * p2 s + c]) (m[i] / p2 (32 - s)) (hd.append (Dig.one (by omega) (by omega))) (by simp [hlen] <;> omega) d0 d1 (by
      have hb : bp (q + (i + 1)) = bp (q + i) * 4294967296 := by rw [← Nat.add_assoc, bp_succ, Int.mul_comm]
      have hb2 := bp_add q i
      rw [nv_snoc, hlen, nv_take_succ hi, hb]
      have h3 : m[i] * p2 s = (m[i] % p2 (32 - s)) * p2 s + 4294967296 * (m[i] / p2 (32 - s)) := by
        rw [← hPQ]; grind
      grind)
    refine ⟨r, Ev.succ ?_, rd_, rl, rv⟩
    simp only [dyad_up.l0]
    have p1 : out.length < 35184372088832 := Nat.lt_of_le_of_lt (show out.length ≤ 2000000 by omega) (by decide)
    have hw : IntKind.u64.wrap m[i] = m[i] := wu64 hx.1 (by omega)
    refine Ev.pos (by omega) (Ev.pos (by omega) (Ev.pos (by omega) (Ev.pos s0 (Ev.pos p1 ?_))))
    rw [w64 (x := 32 - s) (by omega) (by omega), w64 (x := (i : Int) + 1) (by omega) (by omega), rd_nat hi, hw]
    refine Ev.pos (by omega) ?_
    have e6 : m[i] / p2 (32 - s) % 4294967296 = m[i] / p2 (32 - s) := Int.emod_eq_of_lt d0 (by omega)
    rw [shl_u32 (by omega) (by omega), e5, u32_or s.toNat m0 (p2_mod (by omega) _) (by omega) c0 c1 (by omega), shr_u64 (by omega) (by omega), e6]
    exact ev
end
theorem up_ev {m : List Int} (hm : Dig m) (hl : m.length ≤ 1000000) {n : Int} (h0 : 0 ≤ n) (h1 : n ≤ 10000000) :
    ∃ r, Ev (fun K => dyad_up.f K m n) r ∧ Dig r ∧ (r.length : Int) = n / 32 + m.length + 1 ∧ nv r = nv m * p2 n := by
  obtain ⟨q, hq⟩ : ∃ q : Nat, (q : Int) = n / 32 := ⟨(n / 32).toNat, by omega⟩
  have ed : Int.tdiv n 32 = n / 32 := by rw [Int.tdiv_eq_ediv_of_nonneg h0]
  have em : Int.tmod n 32 = n % 32 := by rw [Int.tmod_eq_emod_of_nonneg h0]
  have hP := p2_pos (n % 32)
  obtain ⟨r, ev, rd_, rl, rv⟩ := up_l0 hm hl (q := q) (s := n % 32) (by omega) (by omega) (by omega) m.length 0 (by omega) (by omega) (List.replicate q 0) 0 (Dig.zeros _) (by simp) (by omega) hP (by rw [nv_zeros]; simp [nv])
  refine ⟨r, ?_, rd_, by omega, ?_⟩
  · unfold dyad_up.f
    rw [ed, em, w64 (x := n / 32) (by omega) (by omega), ← hq, w64 (x := (q : Int) + (m.length : Int)) (by omega) (by omega), w64 (x := (q : Int) + (m.length : Int) + 1) (by omega) (by omega)]
    have p1 : (q : Int) + (m.length : Int) + 1 ≤ 70368744177664 := by omega
    refine Ev.pos (by omega) (Ev.pos (by omega) (Ev.pos p1 ?_))
    rw [Int.toNat_natCast]
    exact ev
  · rw [rv, bp_p2]
    have : p2 n = p2 (32 * q) * p2 (n % 32) := by rw [← p2_add (by omega) (by omega)]; congr 1; omega
    rw [this]; grind
/-- Without noughts on top. -/
theorem cut_top_ev {l : List Int} (hl : Dig l) (hn : l.length ≤ 3000000) : ∃ r, Ev (fun K => dyad_line_1.f K l) r ∧ Dig r ∧ Top r ∧ nv r = nv l ∧ r.length ≤ l.length := by
  have key : ∀ n k : Nat, k = n → k ≤ l.length → nv (l.take k) = nv l → ∃ r, Ev (fun K => dyad_line_1.l0 K l k) r ∧ Dig r ∧ Top r ∧ nv r = nv l ∧ r.length ≤ l.length := by
    intro n
    induction n with
    | zero =>
      intro k e1 e2 hv
      subst e1
      refine ⟨[], Ev.succ ?_, Dig.nil, fun h => absurd rfl h, by rw [← hv]; simp [nv], by simp⟩
      simp only [dyad_line_1.l0]
      exact Ev.neg (by omega) (Ev.pos (by omega) (Ev.pos (by omega) (Ev.now _)))
    | succ n ih =>
      intro k e1 e2 hv
      subst e1
      have hi : n < l.length := by omega
      have e : wrap64 (((n + 1 : Nat) : Int) - 1) = (n : Int) := by rw [w64 (by omega) (by omega)]; omega
      by_cases h0 : l[n] = 0
      · obtain ⟨r, ev, a, b, c, d⟩ := ih n rfl (by omega) (by rw [← hv, nv_take_succ hi, h0]; simp)
        refine ⟨r, Ev.succ ?_, a, b, c, d⟩
        simp only [dyad_line_1.l0]
        rw [e]
        exact Ev.pos (by omega) (Ev.pos (by omega) (Ev.pos (by omega) (Ev.pos (by rw [rd_nat hi]; exact h0) ev)))
      · have hlt : (l.take (n + 1)).length = n + 1 := by rw [List.length_take]; omega
        have hlast : (l.take (n + 1))[(l.take (n + 1)).length - 1]'(by omega) = l[n] := by
          rw [List.getElem_take]; congr 1; omega
        refine ⟨l.take (n + 1), Ev.succ ?_, hl.take _, Top.of_last (hl.take _) (by omega) (by rw [hlast]; exact h0), hv, by omega⟩
        simp only [dyad_line_1.l0]
        rw [e]
        refine Ev.pos (by omega) (Ev.pos (by omega) (Ev.pos (by omega) (Ev.neg (by rw [rd_nat hi]; exact h0) (Ev.pos (by omega) (Ev.pos (by omega) ?_)))))
        rw [Int.toNat_natCast]
        exact Ev.now _
  have := key l.length l.length rfl (Nat.le_refl _) (by rw [List.take_length])
  unfold dyad_line_1.f
  exact this
/-- Line: two numbers at one power of two. -/
theorem line_ev {n n' : Bool} {a b : List Int} {e e' : Int} (ha : Dig a) (hb : Dig b) (la : a.length ≤ 1000000) (lb : b.length ≤ 1000000) (e0 : -4000000 ≤ e) (e1 : e ≤ 4000000) (f0 : -4000000 ≤ e') (f1 : e' ≤ 4000000) :
    ∃ X Y d, Ev (fun K => dyad_line.f K n a e n' b e') (X, Y, d) ∧ d = mn e e' ∧ Dig X ∧ Dig Y ∧ Top X ∧ Top Y ∧ nv X = nv a * p2 (e - d) ∧ nv Y = nv b * p2 (e' - d) ∧ X.length ≤ 2000000 ∧ Y.length ≤ 2000000 := by
  have hd : mn e e' ≤ e ∧ mn e e' ≤ e' ∧ -4000000 ≤ mn e e' := by unfold mn; split <;> omega
  obtain ⟨r1, ev1, d1, l1, v1⟩ := up_ev ha la (n := e - mn e e') (by omega) (by omega)
  obtain ⟨X, ev2, d2, t2, v2, l2⟩ := cut_top_ev d1 (by omega)
  obtain ⟨r3, ev3, d3, l3, v3⟩ := up_ev hb lb (n := e' - mn e e') (by omega) (by omega)
  obtain ⟨Y, ev4, d4, t4, v4, l4⟩ := cut_top_ev d3 (by omega)
  refine ⟨X, Y, mn e e', ?_, rfl, d2, d4, t2, t4, by rw [v2, v1], by rw [v4, v3], by omega, by omega⟩
  unfold dyad_line.f
  rw [w64 (x := e - mn e e') (by omega) (by omega), w64 (x := e' - mn e e') (by omega) (by omega)]
  exact Ev.bind ev1 (Ev.bind ev2 (Ev.bind ev3 (Ev.bind ev4 (Ev.now _))))
theorem sgn_lt {x : Int} (h : x < 0) : sgn x = -1 := by unfold sgn; rw [if_pos h]
theorem sgn_gt {x : Int} (h : 0 < x) : sgn x = 1 := by unfold sgn; rw [if_neg (by omega), if_neg (by omega)]
theorem sgn_eq {x : Int} (h : x = 0) : sgn x = 0 := by unfold sgn; rw [if_neg (by omega), if_pos h]
theorem top_lt {X Y : List Int} (hX : Dig X) (tY : Top Y) (h : X.length < Y.length) : nv X < nv Y := by
  have h1 := (nv_bounds hX).2
  have h2 := tY (List.length_pos_iff.mp (by omega))
  have h3 := bp_mono (show X.length ≤ Y.length - 1 by omega)
  omega
theorem digit_lt {X Y : List Int} (hX : Dig X) (hY : Dig Y) {i : Nat} (hi : i < X.length) (hi' : i < Y.length) (h : nv (X.drop (i + 1)) = nv (Y.drop (i + 1))) (hlt : X[i] < Y[i]) : nv X < nv Y := by
  have a := nv_take_drop X i (by omega)
  have b := nv_take_drop Y i (by omega)
  have c := nv_drop hi
  have d := nv_drop hi'
  have e := (nv_bounds (hX.take i)).2
  rw [List.length_take, Nat.min_eq_left (by omega)] at e
  have f := (nv_bounds (hY.take i)).1
  have g := bp_pos i
  have k : bp i * (nv (X.drop i) + 1) ≤ bp i * nv (Y.drop i) := Int.mul_le_mul_of_nonneg_left (by omega) (Int.le_of_lt g)
  rw [Int.mul_add, Int.mul_one] at k
  omega
/-- Cmp: the sign of a difference. -/
theorem cmp_ev {X Y : List Int} (hX : Dig X) (hY : Dig Y) (tX : Top X) (tY : Top Y) (lX : X.length ≤ 3000000) (lY : Y.length ≤ 3000000) : Ev (fun K => dyad_cmp.f K X Y) (sgn (nv X - nv Y)) := by
  unfold dyad_cmp.f
  by_cases hl : X.length = Y.length
  · refine Ev.pos (by omega) ?_
    have key : ∀ j : Nat, j ≤ X.length → nv (X.drop j) = nv (Y.drop j) → Ev (fun K => dyad_cmp.l0 K X Y ((j : Int) - 1)) (sgn (nv X - nv Y)) := by
      intro j
      induction j with
      | zero =>
        intro _ h
        simp only [List.drop_zero] at h
        rw [sgn_eq (by omega)]
        refine Ev.succ ?_
        simp only [dyad_cmp.l0]
        exact Ev.neg (by omega) (Ev.now _)
      | succ j ih =>
        intro h1 h2
        have hi : j < X.length := by omega
        have hi' : j < Y.length := by omega
        have e : ((j + 1 : Nat) : Int) - 1 = (j : Int) := by omega
        rw [e]
        refine Ev.succ ?_
        simp only [dyad_cmp.l0]
        refine Ev.pos (by omega) (Ev.pos (by omega) (Ev.pos (by omega) (Ev.pos (by omega) ?_)))
        rw [rd_nat hi, rd_nat hi']
        by_cases h3 : X[j] = Y[j]
        · refine Ev.pos h3 ?_
          rw [w64 (by omega) (by omega)]
          exact ih (by omega) (by rw [nv_drop hi, nv_drop hi', h3, h2])
        · refine Ev.neg h3 ?_
          by_cases h4 : X[j] < Y[j]
          · have := digit_lt hX hY hi hi' h2 h4
            rw [sgn_lt (by omega)]
            exact Ev.pos h4 (Ev.now _)
          · have := digit_lt hY hX hi' hi h2.symm (by omega)
            rw [sgn_gt (by omega)]
            exact Ev.neg h4 (Ev.now _)
    have := key X.length (Nat.le_refl _) (by rw [List.drop_length, hl, List.drop_length])
    rw [w64 (by omega) (by omega)]
    exact this
  · refine Ev.neg (by omega) ?_
    by_cases h : X.length < Y.length
    · have := top_lt hX tY h
      rw [sgn_lt (by omega)]
      exact Ev.pos (by omega) (Ev.now _)
    · have := top_lt hY tX (by omega)
      rw [sgn_gt (by omega)]
      exact Ev.neg (by omega) (Ev.now _)

/-- An odd number times a power of two has no more twos. -/
theorem odd_expo {N k : Int} {e d : Int} (h : N % 2 = 1) (hv : (N : Rat) * pw e = (k : Rat) * pw d) : d ≤ e := by
  refine Decidable.byContradiction fun hc => ?_
  obtain ⟨n, hn⟩ : ∃ n : Nat, d = e + ((n + 1 : Nat) : Int) := ⟨(d - e - 1).toNat, by omega⟩
  have h1 : (N : Rat) * pw e = ((k * 2 ^ (n + 1) : Int) : Rat) * pw e := by
    rw [hv, hn, pw_addNat]; push_cast; grind
  have h2 := mul_pw_inj h1
  rw [Int.pow_succ] at h2
  have h3 : k * (2 ^ n * 2) = 2 * (k * 2 ^ n) := by grind
  omega
theorem Can.unique {n n' : Bool} {m m' : List Int} {e e' : Int} (c : Can n m e) (c' : Can n' m' e') (h : nval n m e = nval n' m' e') : n = n' ∧ m = m' ∧ e = e' := by
  obtain ⟨d, t, k⟩ := c
  obtain ⟨d', t', k'⟩ := c'
  have pos : ∀ {n : Bool} {m : List Int} {e : Int}, Top m → m ≠ [] → 0 < (nv m : Rat) * pw e := by
    intro n m e t h
    have h1 : (0 : Rat) < (nv m : Rat) := by exact_mod_cast nv_pos t h
    exact Rat.mul_pos h1 (pw_pos e)
  rcases k with ⟨rfl, rfl, rfl⟩ | ⟨hne, ho⟩
  · rcases k' with ⟨rfl, rfl, rfl⟩ | ⟨hne', ho'⟩
    · exact ⟨rfl, rfl, rfl⟩
    · have := pos (n := n') (e := e') t' hne'
      unfold nval at h
      simp [nv] at h
      cases n' <;> simp at h <;> grind
  · rcases k' with ⟨rfl, rfl, rfl⟩ | ⟨hne', ho'⟩
    · have := pos (n := n) (e := e) t hne
      unfold nval at h
      simp [nv] at h
      cases n <;> simp at h <;> grind
    · have p := pos (n := n) (e := e) t hne
      have p' := pos (n := n') (e := e') t' hne'
      have hs : n = n' ∧ (nv m : Rat) * pw e = (nv m' : Rat) * pw e' := by
        unfold nval at h
        cases n <;> cases n' <;> simp at h ⊢ <;> grind
      obtain ⟨rfl, hv⟩ := hs
      have h1 := odd_expo ho hv
      have h2 := odd_expo ho' hv.symm
      obtain rfl : e = e' := by omega
      have h3 := mul_pw_inj hv
      exact ⟨rfl, t.inj d d' t' h3, rfl⟩
/-- A number in its only form, within bounds. -/
structure Nm (E : Int) (x : Rat) (n : Bool) (m : List Int) (e : Int) : Prop where
  can : Can n m e
  val : nval n m e = x
  lo : -E ≤ e
  hi : (nv m : Rat) * pw e ≤ pw E
theorem Nm.unique {E E' : Int} {x : Rat} {n n' : Bool} {m m' : List Int} {e e' : Int} (h : Nm E x n m e) (h' : Nm E' x n' m' e') : n = n' ∧ m = m' ∧ e = e' :=
  h.can.unique h'.can (h.val.trans h'.val.symm)
theorem Nm.mono {E E' : Int} {x : Rat} {n : Bool} {m : List Int} {e : Int} (h : Nm E x n m e) (hE : E ≤ E') : Nm E' x n m e :=
  ⟨h.can, h.val, by have := h.lo; omega, Rat.le_trans h.hi (pw_mono hE)⟩
theorem Nm.sizes {E : Int} {x : Rat} {n : Bool} {m : List Int} {e : Int} (h : Nm E x n m e) (h0 : 0 ≤ E) : e ≤ E ∧ 32 * (m.length : Int) ≤ 2 * E + 32 ∧ -E ≤ e := by
  obtain ⟨d, t, k⟩ := h.can
  have lo := h.lo
  rcases k with ⟨rfl, rfl, rfl⟩ | ⟨hne, ho⟩
  · simp; omega
  · have h1 := t hne
    have h2 : ((bp (m.length - 1) : Int) : Rat) * pw e ≤ (nv m : Rat) * pw e := mul_pw_le.mpr h1
    have h3 : ((bp (m.length - 1) : Int) : Rat) * pw e ≤ pw E := Rat.le_trans h2 h.hi
    rw [bp_pw, ← pw_add] at h3
    have h4 := pw_le_iff.mp h3
    have := List.length_pos_iff.mpr hne
    omega
theorem nval_abs {n : Bool} {m : List Int} {e : Int} (hm : Dig m) : 0 ≤ (nv m : Rat) * pw e ∧ (nval n m e = (nv m : Rat) * pw e ∨ nval n m e = -((nv m : Rat) * pw e)) := by
  have h1 : (0 : Rat) ≤ (nv m : Rat) := by exact_mod_cast (nv_bounds hm).1
  refine ⟨Rat.mul_nonneg h1 (Rat.le_of_lt (pw_pos e)), ?_⟩
  unfold nval
  cases n <;> simp
theorem Nm.abs_le {E : Int} {x : Rat} {n : Bool} {m : List Int} {e : Int} (h : Nm E x n m e) : -pw E ≤ x ∧ x ≤ pw E := by
  have h1 := nval_abs (n := n) (e := e) h.can.1
  have h2 := h.hi
  have h3 := h.val
  rcases h1.2 with h4 | h4 <;> grind
/-- What is in its only form is within bounds that hold of its value. -/
theorem Nm.of {E : Int} {x : Rat} {n : Bool} {m : List Int} {e k : Int} (hE : 0 ≤ E) (c : Can n m e) (h : nval n m e = x) (hk : x = (k : Rat) * pw (-E)) (h1 : x ≤ pw E) (h2 : -pw E ≤ x) : Nm E x n m e := by
  refine ⟨c, h, ?_, ?_⟩
  · rcases c.2.2 with ⟨rfl, rfl, rfl⟩ | ⟨hne, ho⟩
    · omega
    · have h3 : ∃ k' : Int, (nv m : Rat) * pw e = (k' : Rat) * pw (-E) := by
        rcases (nval_abs (n := n) (e := e) c.1).2 with h4 | h4
        · exact ⟨k, by rw [← h4, h, hk]⟩
        · refine ⟨-k, ?_⟩
          have : (nv m : Rat) * pw e = -x := by grind
          rw [this, hk]; push_cast; grind
      obtain ⟨k', h3⟩ := h3
      exact odd_expo ho h3
  · rcases (nval_abs (n := n) (e := e) c.1).2 with h4 | h4 <;> grind
/-- A number within bounds is a whole number times their least power. -/
theorem Nm.whole {E : Int} {x : Rat} {n : Bool} {m : List Int} {e : Int} (h : Nm E x n m e) : ∃ k : Int, x = (k : Rat) * pw (-E) := by
  obtain ⟨j, hj⟩ : ∃ j : Nat, e = -E + (j : Int) := ⟨(e + E).toNat, by have := h.lo; omega⟩
  have e1 : (nv m : Rat) * pw e = ((nv m * 2 ^ j : Int) : Rat) * pw (-E) := by rw [hj, pw_addNat]; push_cast; grind
  rcases (nval_abs (n := n) (e := e) h.can.1).2 with h4 | h4
  · exact ⟨nv m * 2 ^ j, by rw [← h.val, h4, e1]⟩
  · refine ⟨-(nv m * 2 ^ j), ?_⟩
    rw [← h.val, h4, e1]; push_cast; grind

section
variable {X Y : List Int} (hX : Dig X) (hY : Dig Y) (lX : X.length ≤ 900000) {E : Int} {neg : Bool} (e0 : -4000000 ≤ E) (e1 : E ≤ 4000000)
include hX hY lX e0 e1
theorem add_l0 (hle : Y.length ≤ X.length) (a b : Bool) (c : List Int) (f : Int) : ∀ n i : Nat, X.length - i = n → i ≤ X.length → ∀ (out : List Int) (cr : Int), Dig out → out.length = i → 0 ≤ cr → cr ≤ 1 →
    nv out + bp i * cr = nv (X.take i) + nv (Y.take i) →
    ∃ n' m' e', Ev (fun K => dyad_Num_Add.l0 K X Y E out cr X.length i neg c f) (n', m', e') ∧ Can n' m' e' ∧ nval n' m' e' = (if neg then -1 else 1) * (((nv X + nv Y : Int) : Rat) * pw E) := by
  intro n
  induction n with
  | zero =>
    intro i h1 h2 out cr hd hlen c0 c1 hv
    obtain rfl : i = X.length := by omega
    have hc : cr % 4294967296 = cr := by omega
    obtain ⟨n', m', e', ev, cn, vl⟩ := trim_ev (neg := neg) (l := out ++ [cr]) (e := E) (hd.append (Dig.one c0 (by omega))) (by simp [hlen] <;> omega) (by omega) (by omega)
    refine ⟨n', m', e', Ev.succ ?_, cn, ?_⟩
    · simp only [dyad_Num_Add.l0]
      have p1 : out.length < 35184372088832 := Nat.lt_of_le_of_lt (show out.length ≤ 900000 by omega) (by decide)
      rw [hc]
      exact Ev.neg (by omega) (Ev.pos p1 (Ev.bind ev (Ev.now _)))
    · rw [vl]
      have : nv (out ++ [cr]) = nv X + nv Y := by
        rw [nv_snoc, hlen, hv, List.take_length, List.take_of_length_le hle]
      unfold nval
      rw [this]
      cases neg <;> simp <;> grind
  | succ n ih =>
    intro i h1 h2 out cr hd hlen c0 c1 hv
    have hi : i < X.length := by omega
    have hx := hX.get hi
    have p1 : out.length < 35184372088832 := Nat.lt_of_le_of_lt (show out.length ≤ 900000 by omega) (by decide)
    have hb := bp_succ i
    have hbp := bp_pos i
    have wx : IntKind.u64.wrap X[i] = X[i] := wu64 hx.1 (by omega)
    have w1 : IntKind.u64.wrap (cr + X[i]) = cr + X[i] := wu64 (by omega) (by omega)
    by_cases hy : i < Y.length
    · have hyd := hY.get hy
      have wy : IntKind.u64.wrap Y[i] = Y[i] := wu64 hyd.1 (by omega)
      have w2 : IntKind.u64.wrap (cr + X[i] + Y[i]) = cr + X[i] + Y[i] := wu64 (by omega) (by omega)
      obtain ⟨n', m', e', ev, cn, vl⟩ := ih (i + 1) (by omega) (by omega) (out ++ [(cr + X[i] + Y[i]) % 4294967296]) ((cr + X[i] + Y[i]) / 4294967296) (hd.append (Dig.one (by omega) (by omega))) (by simp [hlen]) (by omega) (by omega) (by
        have h3 := Int.emod_add_mul_ediv (cr + X[i] + Y[i]) 4294967296
        rw [nv_snoc, hlen, nv_take_succ hi, nv_take_succ hy, hb]
        grind)
      refine ⟨n', m', e', Ev.succ ?_, cn, vl⟩
      simp only [dyad_Num_Add.l0]
      refine Ev.pos (by omega) (Ev.pos (by omega) (Ev.pos (by omega) (Ev.pos (by omega) (Ev.pos p1 ?_))))
      rw [rd_nat hi, rd_nat hy, wx, w1, wy, w2, w64 (by omega) (by omega)]
      exact ev
    · obtain ⟨n', m', e', ev, cn, vl⟩ := ih (i + 1) (by omega) (by omega) (out ++ [(cr + X[i]) % 4294967296]) ((cr + X[i]) / 4294967296) (hd.append (Dig.one (by omega) (by omega))) (by simp [hlen]) (by omega) (by omega) (by
        have h3 := Int.emod_add_mul_ediv (cr + X[i]) 4294967296
        have h4 : Y.take (i + 1) = Y.take i := by rw [List.take_of_length_le (by omega), List.take_of_length_le (by omega)]
        rw [nv_snoc, hlen, nv_take_succ hi, h4, hb]
        grind)
      refine ⟨n', m', e', Ev.succ ?_, cn, vl⟩
      simp only [dyad_Num_Add.l0]
      refine Ev.pos (by omega) (Ev.pos (by omega) (Ev.pos (by omega) (Ev.neg (by omega) (Ev.pos p1 ?_))))
      rw [rd_nat hi, wx, w1, w64 (by omega) (by omega)]
      exact ev
theorem add_l1 (hle : Y.length ≤ X.length) (hv0 : nv Y ≤ nv X) : ∀ n i : Nat, X.length - i = n → i ≤ X.length → ∀ (out : List Int) (cr : Int), Dig out → out.length = i → -1 ≤ cr → cr ≤ 0 →
    nv out + bp i * cr = nv (X.take i) - nv (Y.take i) →
    ∃ n' m' e', Ev (fun K => dyad_Num_Add.l1 K X Y E neg out cr X.length i) (n', m', e') ∧ Can n' m' e' ∧ nval n' m' e' = (if neg then -1 else 1) * (((nv X - nv Y : Int) : Rat) * pw E) := by
  intro n
  induction n with
  | zero =>
    intro i h1 h2 out cr hd hlen c0 c1 hv
    obtain rfl : i = X.length := by omega
    obtain ⟨n', m', e', ev, cn, vl⟩ := trim_ev (neg := neg) (l := out) (e := E) hd (by omega) (by omega) (by omega)
    refine ⟨n', m', e', Ev.succ ?_, cn, ?_⟩
    · simp only [dyad_Num_Add.l1]
      exact Ev.neg (by omega) (Ev.bind ev (Ev.now _))
    · rw [vl]
      have hb := nv_bounds hd
      rw [hlen] at hb
      rw [List.take_length, List.take_of_length_le hle] at hv
      have hcr : cr = 0 := by
        refine Decidable.byContradiction fun hc => ?_
        obtain rfl : cr = -1 := by omega
        omega
      have : nv out = nv X - nv Y := by rw [hcr] at hv; omega
      unfold nval
      rw [this]
      cases neg <;> simp <;> grind
  | succ n ih =>
    intro i h1 h2 out cr hd hlen c0 c1 hv
    have hi : i < X.length := by omega
    have hx := hX.get hi
    have p1 : out.length < 35184372088832 := Nat.lt_of_le_of_lt (show out.length ≤ 900000 by omega) (by decide)
    have hb := bp_succ i
    have hbp := bp_pos i
    have wx : wrap64 X[i] = X[i] := w64 (by omega) (by omega)
    have w1 : wrap64 (cr + X[i]) = cr + X[i] := w64 (by omega) (by omega)
    by_cases hy : i < Y.length
    · have hyd := hY.get hy
      have wy : wrap64 Y[i] = Y[i] := w64 (by omega) (by omega)
      have w2 : wrap64 (cr + X[i] - Y[i]) = cr + X[i] - Y[i] := w64 (by omega) (by omega)
      obtain ⟨n', m', e', ev, cn, vl⟩ := ih (i + 1) (by omega) (by omega) (out ++ [(cr + X[i] - Y[i]) % 4294967296]) ((cr + X[i] - Y[i]) / 4294967296) (hd.append (Dig.one (by omega) (by omega))) (by simp [hlen]) (by omega) (by omega) (by
        have h3 := Int.emod_add_mul_ediv (cr + X[i] - Y[i]) 4294967296
        rw [nv_snoc, hlen, nv_take_succ hi, nv_take_succ hy, hb]
        grind)
      refine ⟨n', m', e', Ev.succ ?_, cn, vl⟩
      simp only [dyad_Num_Add.l1]
      refine Ev.pos (by omega) (Ev.pos (by omega) (Ev.pos (by omega) (Ev.pos (by omega) (Ev.pos p1 ?_))))
      rw [rd_nat hi, rd_nat hy, wx, w1, wy, w2, w64 (by omega) (by omega)]
      exact ev
    · obtain ⟨n', m', e', ev, cn, vl⟩ := ih (i + 1) (by omega) (by omega) (out ++ [(cr + X[i]) % 4294967296]) ((cr + X[i]) / 4294967296) (hd.append (Dig.one (by omega) (by omega))) (by simp [hlen]) (by omega) (by omega) (by
        have h3 := Int.emod_add_mul_ediv (cr + X[i]) 4294967296
        have h4 : Y.take (i + 1) = Y.take i := by rw [List.take_of_length_le (by omega), List.take_of_length_le (by omega)]
        rw [nv_snoc, hlen, nv_take_succ hi, h4, hb]
        grind)
      refine ⟨n', m', e', Ev.succ ?_, cn, vl⟩
      simp only [dyad_Num_Add.l1]
      refine Ev.pos (by omega) (Ev.pos (by omega) (Ev.pos (by omega) (Ev.neg (by omega) (Ev.pos p1 ?_))))
      rw [rd_nat hi, wx, w1, w64 (by omega) (by omega)]
      exact ev
theorem add_j0 (hle : Y.length ≤ X.length) (c : List Int) (f : Int) :
    ∃ n' m' e', Ev (fun K => dyad_Num_Add.j0 K X Y E neg c f) (n', m', e') ∧ Can n' m' e' ∧ nval n' m' e' = (if neg then -1 else 1) * (((nv X + nv Y : Int) : Rat) * pw E) := by
  obtain ⟨n', m', e', ev, cn, vl⟩ := add_l0 (neg := neg) hX hY lX e0 e1 hle true true c f X.length 0 (by omega) (by omega) [] 0 Dig.nil rfl (by omega) (by omega) (by simp [nv])
  refine ⟨n', m', e', Ev.succ ?_, cn, vl⟩
  simp only [dyad_Num_Add.j0]
  rw [w64 (by omega) (by omega)]
  have p1 : (X.length : Int) + 1 ≤ 70368744177664 := by omega
  exact Ev.pos (by omega) (Ev.pos p1 ev)
theorem nadd_j2 (hle : Y.length ≤ X.length) (hv0 : nv Y ≤ nv X) :
    ∃ n' m' e', Ev (fun K => dyad_Num_Add.j2 K X Y E neg) (n', m', e') ∧ Can n' m' e' ∧ nval n' m' e' = (if neg then -1 else 1) * (((nv X - nv Y : Int) : Rat) * pw E) := by
  obtain ⟨n', m', e', ev, cn, vl⟩ := add_l1 (neg := neg) hX hY lX e0 e1 hle hv0 X.length 0 (by omega) (by omega) [] 0 Dig.nil rfl (by omega) (by omega) (by simp [nv])
  refine ⟨n', m', e', Ev.succ ?_, cn, vl⟩
  simp only [dyad_Num_Add.j2]
  have p1 : (X.length : Int) ≤ 70368744177664 := by omega
  exact Ev.pos (Int.natCast_nonneg _) (Ev.pos p1 ev)
end
theorem shift_val {a b : List Int} {e d : Int} (h : d ≤ e) (hv : nv b = nv a * p2 (e - d)) : (nv b : Rat) * pw d = (nv a : Rat) * pw e := by
  rw [hv]
  have : pw e = ((p2 (e - d) : Int) : Rat) * pw d := by
    rw [← pw_p2 (by omega), ← pw_add]; congr 1; omega
  rw [this]; push_cast; grind
/-- THE SUM. -/
theorem num_add_ev {E : Int} {x y : Rat} {n n' : Bool} {m m' : List Int} {e e' : Int} (hE0 : 0 ≤ E) (hE : E ≤ 1000000) (a : Nm E x n m e) (b : Nm E y n' m' e') :
    ∃ r l f, Ev (fun K => dyad_Num_Add.f K n m e n' m' e') (r, l, f) ∧ Nm (E + 1) (x + y) r l f := by
  have wrap : ∀ {r : Bool} {l : List Int} {f : Int}, Can r l f → nval r l f = x + y → Nm (E + 1) (x + y) r l f := by
    intro r l f c h
    have ha := (a.mono (show E ≤ E + 1 by omega)).whole
    have hb := (b.mono (show E ≤ E + 1 by omega)).whole
    obtain ⟨k, hk⟩ := ha
    obtain ⟨k', hk'⟩ := hb
    have la := a.abs_le
    have lb := b.abs_le
    have h2 := pw_succ E
    exact Nm.of (k := k + k') (by omega) c h (by rw [hk, hk']; push_cast; grind) (by grind) (by grind)
  obtain ⟨sa1, sa2, sa3⟩ := a.sizes hE0
  obtain ⟨sb1, sb2, sb3⟩ := b.sizes hE0
  have da := a.can.1
  have db := b.can.1
  by_cases h1 : m = []
  · have h0 : x = 0 := by rw [← a.val, h1]; unfold nval; cases n <;> simp [nv]
    refine ⟨n', m', e', ?_, wrap b.can (by rw [b.val, h0]; grind)⟩
    unfold dyad_Num_Add.f
    exact Ev.pos (by rw [h1]; rfl) (Ev.now _)
  · have hl1 : ¬ ((m.length : Int) = 0) := by have := List.length_pos_iff.mpr h1; omega
    by_cases h2 : m' = []
    · have h0 : y = 0 := by rw [← b.val, h2]; unfold nval; cases n' <;> simp [nv]
      refine ⟨n, m, e, ?_, wrap a.can (by rw [a.val, h0]; grind)⟩
      unfold dyad_Num_Add.f
      exact Ev.neg hl1 (Ev.pos (by rw [h2]; rfl) (Ev.now _))
    · have hl2 : ¬ ((m'.length : Int) = 0) := by have := List.length_pos_iff.mpr h2; omega
      obtain ⟨X, Y, d, ev, hd, dX, dY, tX, tY, vX, vY, lX, lY⟩ := line_ev (n := n) (n' := n') (a := m) (b := m') (e := e) (e' := e') da db (by omega) (by omega) (by omega) (by omega) (by omega) (by omega)
      have hdd : d ≤ e ∧ d ≤ e' ∧ (-1000000 ≤ d) := by rw [hd]; unfold mn; split <;> omega
      have valX := shift_val hdd.1 vX
      have valY := shift_val hdd.2.1 vY
      have lens : X.length ≤ 900000 ∧ Y.length ≤ 900000 := by
        have hp : pw E = pw (E - d) * pw d := by rw [← pw_add]; congr 1; omega
        have key : ∀ {Z : List Int} {v : Rat}, Top Z → (nv Z : Rat) * pw d = v → v ≤ pw E → Z.length ≤ 900000 := by
          intro Z v tZ hv hle
          by_cases hz : Z = []
          · subst hz; simp
          · have h3 := tZ hz
            have h4 : ((bp (Z.length - 1) : Int) : Rat) * pw d ≤ (nv Z : Rat) * pw d := mul_pw_le.mpr h3
            rw [bp_pw, ← pw_add, hv] at h4
            have h5 := pw_le_iff.mp (Rat.le_trans h4 hle)
            omega
        exact ⟨key tX valX a.hi, key tY valY b.hi⟩
      have nvx : nval n m e = (if n then -1 else 1) * ((nv X : Rat) * pw d) := by unfold nval; rw [valX]; cases n <;> simp <;> grind
      have nvy : nval n' m' e' = (if n' then -1 else 1) * ((nv Y : Rat) * pw d) := by unfold nval; rw [valY]; cases n' <;> simp <;> grind
      rw [a.val] at nvx
      rw [b.val] at nvy
      by_cases hs : n = n'
      · subst hs
        by_cases hlt : X.length < Y.length
        · obtain ⟨r, l, f, ev2, cn, vl⟩ := add_j0 (neg := n) dY dX lens.2 (by omega) (by omega) (E := d) (by omega) m e
          refine ⟨r, l, f, ?_, wrap cn (by rw [vl, nvx, nvy]; push_cast; grind)⟩
          unfold dyad_Num_Add.f
          exact Ev.neg hl1 (Ev.neg hl2 (Ev.bind ev (Ev.pos (by simp) (Ev.pos (show (X.length : Int) < (Y.length : Int) by omega) ev2))))
        · obtain ⟨r, l, f, ev2, cn, vl⟩ := add_j0 (neg := n) dX dY lens.1 (by omega) (by omega) (E := d) (by omega) m e
          refine ⟨r, l, f, ?_, wrap cn (by rw [vl, nvx, nvy]; push_cast; grind)⟩
          unfold dyad_Num_Add.f
          exact Ev.neg hl1 (Ev.neg hl2 (Ev.bind ev (Ev.pos (by simp) (Ev.neg (show ¬ ((X.length : Int) < (Y.length : Int)) by omega) ev2))))
      · have hb : ¬ ((n == n') = true) := by simpa using hs
        have cv := cmp_ev dX dY tX tY (by omega) (by omega)
        have hop : (if n' then (-1 : Rat) else 1) = -(if n then -1 else 1) := by cases n <;> cases n' <;> simp at hs ⊢
        rw [hop] at nvy
        by_cases h0 : nv X - nv Y = 0
        · rw [sgn_eq h0] at cv
          refine ⟨false, [], 0, ?_, wrap ⟨Dig.nil, fun h => absurd rfl h, .inl ⟨rfl, rfl, rfl⟩⟩ ?_⟩
          · unfold dyad_Num_Add.f
            exact Ev.neg hl1 (Ev.neg hl2 (Ev.bind ev (Ev.neg hb (Ev.bind cv (Ev.pos rfl (Ev.now _))))))
          · have : nv X = nv Y := by omega
            rw [nvx, nvy, this]; unfold nval; simp [nv]; grind
        · by_cases hn : nv X - nv Y < 0
          · rw [sgn_lt hn] at cv
            have hle : X.length ≤ Y.length := by
              refine Decidable.byContradiction fun hc => ?_
              have := top_lt dY tX (by omega)
              omega
            obtain ⟨r, l, f, ev2, cn, vl⟩ := nadd_j2 (neg := n') dY dX lens.2 (by omega) (by omega) (E := d) hle (by omega)
            refine ⟨r, l, f, ?_, wrap cn (by rw [vl, nvx, nvy, hop]; push_cast; grind)⟩
            unfold dyad_Num_Add.f
            exact Ev.neg hl1 (Ev.neg hl2 (Ev.bind ev (Ev.neg hb (Ev.bind cv (Ev.neg (by decide) (Ev.pos rfl ev2))))))
          · rw [sgn_gt (by omega)] at cv
            have hle : Y.length ≤ X.length := by
              refine Decidable.byContradiction fun hc => ?_
              have := top_lt dX tY (by omega)
              omega
            obtain ⟨r, l, f, ev2, cn, vl⟩ := nadd_j2 (neg := n) dX dY lens.1 (by omega) (by omega) (E := d) hle (by omega)
            refine ⟨r, l, f, ?_, wrap cn (by rw [vl, nvx, nvy]; push_cast; grind)⟩
            unfold dyad_Num_Add.f
            exact Ev.neg hl1 (Ev.neg hl2 (Ev.bind ev (Ev.neg hb (Ev.bind cv (Ev.neg (by decide) (Ev.neg (by decide) ev2))))))

section
variable {A B : List Int} (hA : Dig A) (hB : Dig B) (lab : A.length + B.length ≤ 900000) {n n' : Bool} {e e' : Int}
include hA hB lab
theorem mul_l1 {Q : Bool × List Int × Int → Prop} {i : Nat} (hi : i < A.length)
    (next : ∀ out, Dig out → out.length = A.length + B.length → (∀ k, (h : k < out.length) → i + 1 + B.length ≤ k → out[k] = 0) → nv out = nv (A.take (i + 1)) * nv B → ∃ r, Ev (fun K => dyad_Num_Mul.l0 K out A A.length ((i + 1 : Nat) : Int) n A e n' B e') r ∧ Q r) :
    ∀ t j : Nat, B.length - j = t → j ≤ B.length → ∀ (out : List Int) (c : Int), Dig out → out.length = A.length + B.length → 0 ≤ c → c < 4294967296 →
      (∀ k, (h : k < out.length) → i + B.length ≤ k → out[k] = 0) → nv out + bp (i + j) * c = nv (A.take i) * nv B + bp i * (A[i] * nv (B.take j)) →
      ∃ r, Ev (fun K => dyad_Num_Mul.l1 K out i A[i] c A A.length i B B.length j n A e n' B e') r ∧ Q r := by
  intro t
  induction t with
  | zero =>
    intro j h1 h2 out c hd hl c0 c1 hz hv
    obtain rfl : j = B.length := by omega
    have hk : i + B.length < out.length := by omega
    have z0 := hz _ hk (Nat.le_refl _)
    obtain ⟨r, ev, q⟩ := next (out.set (i + B.length) c) (hd.set _ c0 c1) (by rw [List.length_set, hl]) (by
      intro k h3 h4
      rw [List.length_set] at h3
      rw [List.getElem_set_ne (by omega)]
      exact hz k h3 (by omega)) (by
      rw [nv_set hk, z0, nv_take_succ hi]
      rw [List.take_length] at hv
      grind)
    refine ⟨r, Ev.succ ?_, q⟩
    simp only [dyad_Num_Mul.l1]
    have tn : ((i : Int) + (B.length : Int)).toNat = i + B.length := by omega
    rw [w64 (x := (i : Int) + (B.length : Int)) (by omega) (by omega), w64 (x := (i : Int) + 1) (by omega) (by omega), tn, show c % 4294967296 = c by omega]
    exact Ev.neg (by omega) (Ev.pos (by omega) (Ev.pos (by omega) ev))
  | succ t ih =>
    intro j h1 h2 out c hd hl c0 c1 hz hv
    have hj : j < B.length := by omega
    have hk : i + j < out.length := by omega
    have ha := hA.get hi
    have hb := hB.get hj
    have ho := hd.get hk
    have hp := mul_bound ha.1 hb.1 (show A[i] ≤ 4294967295 by omega) (show B[j] ≤ 4294967295 by omega)
    have e3 : rd out ((i : Int) + (j : Int)) = out[i + j] := rd_nat (i := i + j) hk
    have tn : ((i : Int) + (j : Int)).toNat = i + j := by omega
    generalize hs : c + (out[i + j] + A[i] * B[j]) = s at *
    have hr := Int.emod_add_mul_ediv s 4294967296
    obtain ⟨r, ev, q⟩ := ih (j + 1) (by omega) (by omega) (out.set (i + j) (s % 4294967296)) (s / 4294967296) (hd.set _ (by omega) (by omega)) (by rw [List.length_set, hl]) (by omega) (by omega) (by
      intro k h3 h4
      rw [List.length_set] at h3
      rw [List.getElem_set_ne (by omega)]
      exact hz k h3 h4) (by
      rw [nv_set hk, nv_take_succ hj, show i + (j + 1) = i + j + 1 by omega, bp_succ]
      have hx := bp_add i j
      have h5 : bp (i + j) * (s % 4294967296 + 4294967296 * (s / 4294967296)) = bp (i + j) * (c + (out[i + j] + A[i] * B[j])) := by rw [hr, hs]
      have h6 : bp (i + j) * (A[i] * B[j]) = bp i * (bp j * (A[i] * B[j])) := by rw [hx, Int.mul_assoc]
      grind)
    refine ⟨r, Ev.succ ?_, q⟩
    simp only [dyad_Num_Mul.l1]
    rw [w64 (x := (i : Int) + (j : Int)) (by omega) (by omega), w64 (x := (j : Int) + 1) (by omega) (by omega), tn, rd_nat hj, e3, wu64 (x := A[i]) ha.1 (by omega), wu64 (x := B[j]) hb.1 (by omega), wu64 (x := out[i + j]) ho.1 (by omega), wu64 (x := A[i] * B[j]) hp.1 (by omega), wu64 (x := out[i + j] + A[i] * B[j]) (by omega) (by omega), hs, wu64 (x := s) (by omega) (by omega)]
    exact Ev.pos (by omega) (Ev.pos (by omega) (Ev.pos (by omega) (Ev.pos (by omega) (Ev.pos (by omega) ev))))
theorem mul_l0 (he : -2000000 ≤ e ∧ e ≤ 2000000) (he' : -2000000 ≤ e' ∧ e' ≤ 2000000) : ∀ t i : Nat, A.length - i = t → i ≤ A.length → ∀ (out : List Int), Dig out → out.length = A.length + B.length →
      (∀ k, (h : k < out.length) → i + B.length ≤ k → out[k] = 0) → nv out = nv (A.take i) * nv B →
      ∃ r, Ev (fun K => dyad_Num_Mul.l0 K out A A.length i n A e n' B e') r ∧ Can r.1 r.2.1 r.2.2 ∧ nval r.1 r.2.1 r.2.2 = nval n A e * nval n' B e' := by
  intro t
  induction t with
  | zero =>
    intro i h1 h2 out hd hl hz hv
    obtain rfl : i = A.length := by omega
    obtain ⟨r, l, f, ev, cn, vl⟩ := trim_ev (neg := n != n') (l := out) (e := e + e') hd (by omega) (by omega) (by omega)
    refine ⟨(r, l, f), Ev.succ ?_, cn, ?_⟩
    · simp only [dyad_Num_Mul.l0]
      rw [w64 (x := e + e') (by omega) (by omega)]
      exact Ev.neg (by omega) (Ev.bind ev (Ev.now _))
    · rw [vl]
      rw [List.take_length] at hv
      unfold nval
      rw [hv, pw_add]
      push_cast
      cases n <;> cases n' <;> simp <;> grind
  | succ t ih =>
    intro i h1 h2 out hd hl hz hv
    have hi : i < A.length := by omega
    have ha := hA.get hi
    obtain ⟨r, ev, q⟩ := mul_l1 hA hB lab (n := n) (n' := n') (e := e) (e' := e') (Q := fun r => Can r.1 r.2.1 r.2.2 ∧ nval r.1 r.2.1 r.2.2 = nval n A e * nval n' B e') hi
      (fun out a b c d => ih (i + 1) (by omega) (by omega) out a b c d) B.length 0 (by omega) (by omega) out 0 hd hl (by omega) (by omega) hz (by simp [nv, hv])
    refine ⟨r, Ev.succ ?_, q⟩
    simp only [dyad_Num_Mul.l0]
    rw [rd_nat hi]
    exact Ev.pos (by omega) (Ev.pos (by omega) (Ev.pos (by omega) ev))
end
theorem prod_le {u v P Q : Rat} (h0 : 0 ≤ u) (h1 : u ≤ P) (h2 : 0 ≤ v) (h3 : v ≤ Q) : 0 ≤ u * v ∧ u * v ≤ P * Q :=
  ⟨Rat.mul_nonneg h0 h2, Rat.le_trans (Rat.mul_le_mul_of_nonneg_right h1 h2) (Rat.mul_le_mul_of_nonneg_left h3 (Rat.le_trans h0 h1))⟩
/-- THE PRODUCT. -/
theorem num_mul_ev {E E' : Int} {x y : Rat} {n n' : Bool} {m m' : List Int} {e e' : Int} (hE0 : 0 ≤ E) (hE : E ≤ 1000000) (hE0' : 0 ≤ E') (hE' : E' ≤ 1000000) (a : Nm E x n m e) (b : Nm E' y n' m' e') :
    ∃ r l f, Ev (fun K => dyad_Num_Mul.f K n m e n' m' e') (r, l, f) ∧ Nm (E + E') (x * y) r l f := by
  have wrap : ∀ {r : Bool} {l : List Int} {f : Int}, Can r l f → nval r l f = x * y → Nm (E + E') (x * y) r l f := by
    intro r l f c h
    obtain ⟨k, hk⟩ := a.whole
    obtain ⟨k', hk'⟩ := b.whole
    have ea : pw (-(E + E')) = pw (-E) * pw (-E') := by rw [← pw_add]; congr 1; omega
    have eb : pw (E + E') = pw E * pw E' := pw_add _ _
    obtain ⟨p0, p1⟩ := nval_abs (n := n) (e := e) a.can.1
    obtain ⟨q0, q1⟩ := nval_abs (n := n') (e := e') b.can.1
    obtain ⟨r0, r1⟩ := prod_le p0 a.hi q0 b.hi
    rw [a.val] at p1
    rw [b.val] at q1
    have s1 : x * y ≤ pw (E + E') ∧ -pw (E + E') ≤ x * y := by
      rw [eb]
      rcases p1 with p1 | p1 <;> rcases q1 with q1 | q1 <;> rw [p1, q1] <;> constructor <;> grind
    exact Nm.of (k := k * k') (by omega) c h (by rw [ea, hk, hk']; push_cast; grind) s1.1 s1.2
  obtain ⟨sa1, sa2, sa3⟩ := a.sizes hE0
  obtain ⟨sb1, sb2, sb3⟩ := b.sizes hE0'
  have da := a.can.1
  have db := b.can.1
  have nought : x * y = 0 → Nm (E + E') (x * y) false [] 0 := fun h => wrap ⟨Dig.nil, fun h => absurd rfl h, .inl ⟨rfl, rfl, rfl⟩⟩ (by rw [h]; unfold nval; simp [nv])
  by_cases h1 : m = []
  · have h0 : x = 0 := by rw [← a.val, h1]; unfold nval; cases n <;> simp [nv]
    refine ⟨false, [], 0, ?_, nought (by rw [h0]; grind)⟩
    unfold dyad_Num_Mul.f
    refine Ev.pos (by rw [h1]; rfl) (Ev.succ ?_)
    simp only [dyad_Num_Mul.j0]
    exact Ev.pos trivial (Ev.now _)
  · have hl1 : ¬ ((m.length : Int) = 0) := by have := List.length_pos_iff.mpr h1; omega
    by_cases h2 : m' = []
    · have h0 : y = 0 := by rw [← b.val, h2]; unfold nval; cases n' <;> simp [nv]
      refine ⟨false, [], 0, ?_, nought (by rw [h0]; grind)⟩
      unfold dyad_Num_Mul.f
      refine Ev.neg hl1 (Ev.succ ?_)
      simp only [dyad_Num_Mul.j0]
      exact Ev.pos (by rw [h2]; rfl) (Ev.now _)
    · have hl2 : ¬ ((m'.length : Int) = 0) := by have := List.length_pos_iff.mpr h2; omega
      have lab : m.length + m'.length ≤ 900000 := by omega
      obtain ⟨⟨r, l, f⟩, ev, cn, vl⟩ := mul_l0 da db lab (n := n) (n' := n') (e := e) (e' := e') ⟨by omega, by omega⟩ ⟨by omega, by omega⟩ m.length 0 (by omega) (by omega) (List.replicate (m.length + m'.length) 0) (Dig.zeros _) (by simp) (by
        intro k h3 h4
        simp) (by rw [nv_zeros]; simp [nv])
      refine ⟨r, l, f, ?_, wrap cn (by rw [vl, a.val, b.val])⟩
      unfold dyad_Num_Mul.f
      refine Ev.neg hl1 (Ev.succ ?_)
      simp only [dyad_Num_Mul.j0]
      have tn : ((m.length : Int) + (m'.length : Int)).toNat = m.length + m'.length := by omega
      rw [w64 (x := (m.length : Int) + (m'.length : Int)) (by omega) (by omega), tn]
      have p1 : (m.length : Int) + (m'.length : Int) ≤ 70368744177664 := by omega
      exact Ev.neg (by simpa using h2) (Ev.pos (by omega) (Ev.pos p1 ev))

/-- A power of two. -/
theorem two_ev {E a : Int} (h0 : -1048576 ≤ a) (h1 : a ≤ 1048576) (h2 : -E ≤ a) (h3 : a ≤ E) : dyad_Two.f a = some (false, [1], a) ∧ Nm E (pw a) false [1] a := by
  have n1 : nv [1] = 1 := by decide
  constructor
  · unfold dyad_Two.f
    have : mx (-1048576) (mn a 1048576) = a := by unfold mx mn; grind
    rw [this]
  · refine ⟨⟨Dig.one (by decide) (by decide), fun _ => by decide, .inr ⟨by simp, by rw [n1]; rfl⟩⟩, ?_, h2, ?_⟩
    · unfold nval; rw [n1]; simp
    · rw [n1]; have := pw_mono h3; simpa using this
theorem eq_l0 {l l' : List Int} (hl : l.length = l'.length) (hn : l.length ≤ 1000000) : ∀ t i : Nat, l.length - i = t → i ≤ l.length → Ev (fun K => slices_Equal_uint32_uint32.l0 K l l' l.length i) (decide (l.drop i = l'.drop i)) := by
  intro t
  induction t with
  | zero =>
    intro i h1 h2
    obtain rfl : i = l.length := by omega
    refine Ev.succ ?_
    simp only [slices_Equal_uint32_uint32.l0]
    have : decide (l.drop l.length = l'.drop l.length) = true := by simp [hl]
    rw [this]
    exact Ev.neg (by omega) (Ev.now _)
  | succ t ih =>
    intro i h1 h2
    have hi : i < l.length := by omega
    have hi' : i < l'.length := by omega
    refine Ev.succ ?_
    simp only [slices_Equal_uint32_uint32.l0]
    refine Ev.pos (by omega) (Ev.pos (by omega) (Ev.pos (by omega) (Ev.pos (by omega) ?_)))
    have key : (l.drop i = l'.drop i) ↔ (l[i] = l'[i] ∧ l.drop (i + 1) = l'.drop (i + 1)) := by rw [List.drop_eq_getElem_cons hi, List.drop_eq_getElem_cons hi', List.cons.injEq]
    rw [rd_nat hi, rd_nat hi', w64 (by omega) (by omega)]
    by_cases c : l[i] = l'[i]
    · have := ih (i + 1) (by omega) (by omega)
      refine Ev.pos c ?_
      have e : decide (l.drop i = l'.drop i) = decide (l.drop (i + 1) = l'.drop (i + 1)) := decide_eq_decide.mpr (key.trans ⟨fun h => h.2, fun h => ⟨c, h⟩⟩)
      rw [e]
      exact this
    · refine Ev.neg c ?_
      have e : decide (l.drop i = l'.drop i) = false := decide_eq_false fun h => c (key.mp h).1
      rw [e]
      exact Ev.now _
theorem eq_ev {l l' : List Int} (hn : l.length ≤ 1000000) : Ev (fun K => slices_Equal_uint32_uint32.f K l l') (decide (l = l')) := by
  unfold slices_Equal_uint32_uint32.f
  by_cases c : l.length = l'.length
  · exact Ev.pos (by omega) (eq_l0 c hn l.length 0 (by omega) (by omega))
  · have : decide (l = l') = false := decide_eq_false fun h => c (by rw [h])
    rw [this]
    exact Ev.neg (by omega) (Ev.now _)
/-- Two numbers in their only form are one if what they stand for is one. -/
theorem same_ev {E E' : Int} {x y : Rat} {n n' : Bool} {m m' : List Int} {e e' : Int} (hE0 : 0 ≤ E) (hE : E ≤ 1000000) (a : Nm E x n m e) (b : Nm E' y n' m' e') : Ev (fun K => dyad_Num_Same.f K n m e n' m' e') (decide (x = y)) := by
  obtain ⟨sa1, sa2, sa3⟩ := a.sizes hE0
  have key : x = y ↔ (n = n' ∧ e = e' ∧ m = m') := by
    constructor
    · intro h; subst h; obtain ⟨h1, h2, h3⟩ := a.unique b; exact ⟨h1, h3, h2⟩
    · rintro ⟨rfl, rfl, rfl⟩; rw [← a.val, b.val]
  unfold dyad_Num_Same.f
  by_cases h1 : n = n'
  · refine Ev.pos (by simpa using h1) ?_
    by_cases h2 : e = e'
    · refine Ev.pos h2 (Ev.bind (eq_ev (l' := m') (by omega)) ?_)
      have : decide (x = y) = decide (m = m') := by rw [decide_eq_decide, key]; simp [h1, h2]
      rw [this]
      exact Ev.now _
    · have : decide (x = y) = false := decide_eq_false fun h => h2 (key.mp h).2.1
      rw [this]
      exact Ev.neg h2 (Ev.now _)
  · have : decide (x = y) = false := decide_eq_false fun h => h1 (key.mp h).1
    rw [this]
    exact Ev.neg (by simpa using h1) (Ev.now _)
/-- Bounds that hold of the value. -/
theorem Nm.fit {E E' : Int} {x : Rat} {n : Bool} {m : List Int} {e k : Int} (h : Nm E x n m e) (hE : 0 ≤ E') (hk : x = (k : Rat) * pw (-E')) (h1 : x ≤ pw E') (h2 : -pw E' ≤ x) : Nm E' x n m e :=
  Nm.of hE h.can h.val hk h1 h2
theorem int_bounds {z : Int} {E : Int} (h0 : 0 ≤ E) (h1 : z ≤ p2 E) (h2 : -p2 E ≤ z) : (z : Rat) = ((z * p2 E : Int) : Rat) * pw (-E) ∧ (z : Rat) ≤ pw E ∧ -pw E ≤ (z : Rat) := by
  rw [pw_p2 h0]
  refine ⟨?_, by exact_mod_cast h1, by have : ((-p2 E : Int) : Rat) ≤ (z : Rat) := by exact_mod_cast h2
                                       push_cast at this; exact this⟩
  have := pw_neg_mul E
  rw [pw_p2 h0] at this
  push_cast
  grind
theorem Nm.int {E E' : Int} {z : Int} {n : Bool} {m : List Int} {e : Int} (h : Nm E (z : Rat) n m e) (hE : 0 ≤ E') (h1 : z ≤ p2 E') (h2 : -p2 E' ≤ z) : Nm E' (z : Rat) n m e :=
  let b := int_bounds hE h1 h2
  h.fit hE b.1 b.2.1 b.2.2
theorem nv_two {u : Int} (h0 : 0 ≤ u) (h1 : u < 18446744073709551616) : Dig [u % 4294967296, u / 4294967296 % 4294967296] ∧ nv [u % 4294967296, u / 4294967296 % 4294967296] = u := by
  refine ⟨Dig.mk (by omega) (by omega) (Dig.one (by omega) (by omega)), ?_⟩
  simp only [nv]
  omega
end Gim
namespace Gim
open Go Go.RowKit Go.Proofs.YtlhpejbmjbcmaaaDoorW.PrintWords Go.Proofs.YtlhpejbmjbcmaaaDoorW.PrintLast Go.Proofs.YtlhpejbmjbcmaaaDoorW.PrintMore Go.Proofs.YtlhpejbmjbcmaaaDoor.F
set_option linter.unusedVariables false
set_option linter.unusedSectionVars false

theorem nval_sgd (n : Bool) (m : List Int) (e : Int) : nval n m e = (sgd n (nv m) : Rat) * pw e := by
  unfold nval sgd
  cases n
  · simp
  · simp; grind
/-- WHAT A PATTERN IS. -/
theorem of_ev {a E : Int} (hE : E = 1074) (ha : U a) (fa : fin a) : ∃ r l f, Ev (fun K => dyad_Of.f K a) (r, l, f, true) ∧ Nm E (val a) r l f := by
  obtain ⟨e1, e2⟩ := fin_expo fa
  have uM := mant_U a
  have lM := mant_lt (m := mag a)
  have parts : ∃ p q, Ev (fun k => word_Parts.f k a) (p, q) ∧ 0 ≤ p ∧ p < 9007199254740992 ∧ -1074 ≤ q ∧ q ≤ 971 ∧ val a = (sgd (neg a) p : Rat) * pw q := by
    by_cases h : 0 < mag a
    · exact ⟨_, _, word_Parts_ev ha h fa, uM.1, lM, e1, e2, val_mant a⟩
    · have h0 : mag a = 0 := by have := (mag_lt (a := a)).1; omega
      refine ⟨0, 0, word_Parts_none ha (.inl h0), by decide, by decide, by decide, by decide, ?_⟩
      rw [val_zero_iff.mpr h0]; unfold sgd; cases neg a <;> simp
  obtain ⟨p, q, ev, p0, p1, q0, q1, hv⟩ := parts
  obtain ⟨dg, vl⟩ := nv_two (u := p) (by omega) (by omega)
  obtain ⟨r, l, f, evt, cn, v⟩ := trim_ev (neg := neg a) (e := q) dg (by simp) (by omega) (by omega)
  rw [nval_sgd (neg a), vl] at v
  refine ⟨r, l, f, ?_, ?_⟩
  · unfold dyad_Of.f
    refine Ev.call (word_Finite_eq ha) (Ev.pos (decide_eq_true fa) (Ev.bind ev (Ev.call (word_Neg_eq ha) (Ev.bind evt (Ev.now _)))))
  · have hb : rabs (val a) ≤ pw E := by
      rw [hv, rabs_sgd _ p0]
      have h1 : (p : Rat) * pw q ≤ pw 53 * pw 971 := by
        refine (prod_le ?_ ?_ (Rat.le_of_lt (pw_pos q)) (pw_mono q1)).2
        · exact_mod_cast p0
        · rw [pw_p2 (a := 53) (by decide), show p2 53 = 9007199254740992 from by decide]; exact Rat.intCast_le_intCast.mpr (Int.le_of_lt p1)
      rw [← pw_add] at h1
      exact Rat.le_trans h1 (pw_mono (by omega))
    refine Nm.of (k := sgd (neg a) p * p2 (q + E)) (by omega) cn (v.trans hv.symm) ?_ ?_ ?_
    · rw [hv]
      have : pw q = ((p2 (q + E) : Int) : Rat) * pw (-E) := by rw [← pw_p2 (by omega), ← pw_add]; congr 1; omega
      rw [this]; push_cast; grind
    · unfold rabs at hb; split at hb <;> grind
    · unfold rabs at hb; split at hb <;> grind
end Gim
namespace Gim
open Go Go.RowKit Go.Proofs.YtlhpejbmjbcmaaaDoorW.PrintWords Go.Proofs.YtlhpejbmjbcmaaaDoorW.PrintLast Go.Proofs.YtlhpejbmjbcmaaaDoorW.PrintMore Go.Proofs.YtlhpejbmjbcmaaaDoor.F
set_option linter.unusedVariables false

theorem and7_nat (x : Int) : ∃ n : Nat, Go.bits .and .i64 x 7 = (n : Int) ∧ n ≤ 7 := by
  rw [and7]
  exact ⟨(x % 8).toNat, by omega, by omega⟩
theorem W1 (x : Nat) (hx : x ≤ 1000) : wrap64 ((x : Int) + 1) = ((x + 1 : Nat) : Int) := by rw [w64 (by omega) (by omega)]; rfl
theorem exact16_ev {a : Int} (ha : U a) (fa : fin a) : ∃ r l f, Ev (fun K => gimballaw16_exact.f K a) (r, l, f) ∧ Nm 1074 (val a) r l f := by
  obtain ⟨r, l, f, ev, nm⟩ := of_ev rfl ha fa
  refine ⟨r, l, f, ?_, nm⟩
  unfold gimballaw16_exact.f
  exact Ev.bind ev (Ev.now _)
theorem Nm_zero : Nm 2148 0 false [] 0 := by
  refine ⟨⟨Dig.nil, fun h => absurd rfl h, .inl ⟨rfl, rfl, rfl⟩⟩, by unfold nval nv; simp, by decide, ?_⟩
  have := pw_pos 2148
  simp [nv]
  exact Rat.le_of_lt this
theorem rd_mem_U {l : List Int} {n i : Nat} (h : ∀ x ∈ l, U x) (hl : l.length = n) (hi : i < n) : U (rd l (i : Int)) := h _ (rd_mem (by omega) (by omega))
end Gim
namespace Gim
set_option linter.unusedVariables false

/-- A sum of rational numbers. -/
def sr (g : Nat → Rat) : Nat → Rat
  | 0 => 0
  | n + 1 => sr g n + g n
theorem sr_congr {f g : Nat → Rat} : ∀ n, (∀ i, i < n → f i = g i) → sr f n = sr g n
  | 0, _ => rfl
  | n + 1, h => by simp only [sr]; rw [sr_congr n (fun i hi => h i (by omega)), h n (by omega)]
theorem sr_mul (f : Nat → Rat) (c : Rat) : ∀ n, sr f n * c = sr (fun i => f i * c) n
  | 0 => by simp only [sr]; grind
  | n + 1 => by simp only [sr]; rw [← sr_mul f c n]; grind
theorem sr_upd (f : Nat → Rat) (j : Nat) (v : Rat) : ∀ n, j < n → sr (fun x => if x = j then v else f x) n = sr f n - f j + v
  | 0, h => by omega
  | n + 1, h => by
    simp only [sr]
    by_cases c : n = j
    · subst c
      rw [if_pos rfl, sr_congr (g := f) n (fun i hi => if_neg (by omega))]
      grind
    · rw [if_neg c, sr_upd f j v n (by omega)]
      grind
/-- There is no room. -/
theorem no_room : ∀ (n : Nat) (p : Nat → Nat), (∀ i, i < n + 1 → p i < n) → (∀ i j, i < n + 1 → j < n + 1 → p i = p j → i = j) → False
  | 0, p, h, _ => by have := h 0 (by omega); omega
  | n + 1, p, h, hi => by
    by_cases c : ∃ j, j < n + 1 + 1 ∧ p j = n
    · obtain ⟨j, hj, e⟩ := c
      refine no_room n (fun x => if x = j then p (n + 1) else p x) (fun i hi1 => ?_) (fun a b ha hb hab => ?_)
      · show (if i = j then p (n + 1) else p i) < n
        by_cases c : i = j
        · rw [if_pos c]
          have h1 := h (n + 1) (by omega)
          have : p (n + 1) ≠ n := fun e2 => by have := hi (n + 1) j (by omega) hj (by omega); omega
          omega
        · rw [if_neg c]
          have h1 := h i (by omega)
          have : p i ≠ n := fun e2 => c (hi i j (by omega) hj (by omega))
          omega
      · have hab : (if a = j then p (n + 1) else p a) = (if b = j then p (n + 1) else p b) := hab
        by_cases ca : a = j
        · by_cases cb : b = j
          · omega
          · rw [if_pos ca, if_neg cb] at hab
            have := hi (n + 1) b (by omega) (by omega) hab
            omega
        · by_cases cb : b = j
          · rw [if_neg ca, if_pos cb] at hab
            have := hi a (n + 1) (by omega) (by omega) hab
            omega
          · rw [if_neg ca, if_neg cb] at hab
            exact hi a b (by omega) (by omega) hab
    · refine no_room n p (fun i hi1 => ?_) (fun a b ha hb hab => hi a b (by omega) (by omega) hab)
      have h1 := h i (by omega)
      have : p i ≠ n := fun e => c ⟨i, by omega, e⟩
      omega
/-- The same sum in another order. -/
theorem sr_perm (g : Nat → Rat) : ∀ (n : Nat) (p : Nat → Nat), (∀ i, i < n → p i < n) → (∀ i j, i < n → j < n → p i = p j → i = j) → sr (fun i => g (p i)) n = sr g n
  | 0, _, _, _ => rfl
  | n + 1, p, h, hi => by
    by_cases c : p n = n
    · simp only [sr]
      rw [c, sr_perm g n p (fun i hi1 => by
        have h1 := h i (by omega)
        have : p i ≠ n := fun e => by have := hi i n (by omega) (by omega) (by omega); omega
        omega) (fun a b ha hb hab => hi a b (by omega) (by omega) hab)]
    · have hq := h n (by omega)
      by_cases c2 : ∃ j, j < n ∧ p j = n
      · obtain ⟨j, hj, e⟩ := c2
        have ih := sr_perm g n (fun x => if x = j then p n else p x) (fun i hi1 => by
          show (if i = j then p n else p i) < n
          by_cases c3 : i = j
          · rw [if_pos c3]; omega
          · rw [if_neg c3]
            have h1 := h i (by omega)
            have : p i ≠ n := fun e2 => c3 (hi i j (by omega) (by omega) (by omega))
            omega) (fun a b ha hb hab => by
          have hab : (if a = j then p n else p a) = (if b = j then p n else p b) := hab
          by_cases ca : a = j
          · by_cases cb : b = j
            · omega
            · rw [if_pos ca, if_neg cb] at hab
              have := hi n b (by omega) (by omega) hab
              omega
          · by_cases cb : b = j
            · rw [if_neg ca, if_pos cb] at hab
              have := hi a n (by omega) (by omega) hab
              omega
            · rw [if_neg ca, if_neg cb] at hab
              exact hi a b (by omega) (by omega) hab)
        have e2 : sr (fun i => g ((fun x => if x = j then p n else p x) i)) n = sr (fun i => g (p i)) n - g (p j) + g (p n) := by
          rw [← sr_upd (fun i => g (p i)) j (g (p n)) n hj]
          refine sr_congr n fun i hi1 => ?_
          show g (if i = j then p n else p i) = if i = j then g (p n) else g (p i)
          split <;> rfl
        rw [e2, e] at ih
        simp only [sr]
        grind
      · exfalso
        refine no_room n p (fun i hi1 => ?_) hi
        have h1 := h i hi1
        have : p i ≠ n := fun e => by
          by_cases c3 : i = n
          · subst c3; exact c e
          · exact c2 ⟨i, by omega, e⟩
        omega
/-- Each place is met. -/
theorem hit {n : Nat} {p : Nat → Nat} (h : ∀ i, i < n → p i < n) (hi : ∀ i j, i < n → j < n → p i = p j → i = j) {q : Nat} (hq : q < n) : ∃ i, i < n ∧ p i = q := by
  refine Classical.byContradiction fun c => ?_
  have c' : ∀ i, i < n → p i ≠ q := fun i a e => c ⟨i, a, e⟩
  obtain ⟨m, rfl⟩ : ∃ m, n = m + 1 := ⟨n - 1, by omega⟩
  refine no_room m (fun x => if p x = m then q else p x) (fun i a => ?_) (fun a b ha hb e => ?_)
  · show (if p i = m then q else p i) < m
    have h1 := h i a
    have h2 := c' i a
    by_cases c3 : p i = m
    · rw [if_pos c3]; omega
    · rw [if_neg c3]; omega
  · have e : (if p a = m then q else p a) = (if p b = m then q else p b) := e
    have h1 := c' a ha
    have h2 := c' b hb
    by_cases c3 : p a = m
    · by_cases c4 : p b = m
      · exact hi a b ha hb (by omega)
      · rw [if_pos c3, if_neg c4] at e; exact absurd e.symm h2
    · by_cases c4 : p b = m
      · rw [if_neg c3, if_pos c4] at e; exact absurd e h1
      · rw [if_neg c3, if_neg c4] at e; exact hi a b ha hb e
end Gim
