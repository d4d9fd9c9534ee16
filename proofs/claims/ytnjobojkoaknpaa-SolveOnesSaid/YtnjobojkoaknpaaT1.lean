/- Powers of two as rational numbers, and what it is to be rounded to the nearest of 53 bits. -/
namespace Gim
set_option linter.unusedVariables false

def pw (e : Int) : Rat := (2 : Rat) ^ e
theorem two_ne : (2 : Rat) ≠ 0 := by decide
theorem pw_pos (e : Int) : 0 < pw e := Rat.zpow_pos (by decide)
theorem pw_ne (e : Int) : pw e ≠ 0 := by have := pw_pos e; grind
theorem pw_add (a b : Int) : pw (a + b) = pw a * pw b := Rat.zpow_add two_ne a b
theorem pw_zero : pw 0 = 1 := Rat.zpow_zero 2
theorem pw_one : pw 1 = 2 := Rat.zpow_one 2
theorem pw_succ (e : Int) : pw (e + 1) = 2 * pw e := by rw [pw_add, pw_one, Rat.mul_comm]
theorem pw_pred (e : Int) : 2 * pw (e - 1) = pw e := by
  have := pw_succ (e - 1)
  rw [Int.sub_add_cancel] at this
  exact this.symm
theorem pw_nat (n : Nat) : pw (n : Int) = ((2 ^ n : Int) : Rat) := by
  unfold pw
  rw [Rat.zpow_natCast]
  push_cast
  rfl
theorem pw_addNat (e : Int) (n : Nat) : pw (e + n) = ((2 ^ n : Int) : Rat) * pw e := by rw [pw_add, pw_nat, Rat.mul_comm]
theorem pw_le_add (e : Int) (n : Nat) : pw e ≤ pw (e + n) := by
  induction n with
  | zero => simp
  | succ n ih =>
    have h := pw_succ (e + n)
    have hp := pw_pos (e + n)
    have e1 : e + ((n + 1 : Nat) : Int) = e + n + 1 := by omega
    rw [e1, h]
    grind
theorem pw_mono {a b : Int} (h : a ≤ b) : pw a ≤ pw b := by
  obtain ⟨n, rfl⟩ : ∃ n : Nat, b = a + n := ⟨(b - a).toNat, by omega⟩
  exact pw_le_add a n
theorem pw_lt {a b : Int} (h : a < b) : 2 * pw a ≤ pw b := by
  rw [← pw_succ]
  exact pw_mono h
theorem pw_le_iff {a b : Int} : pw a ≤ pw b ↔ a ≤ b := by
  constructor
  · intro h
    by_cases hc : a ≤ b
    · exact hc
    · have := pw_lt (Int.not_le.mp hc)
      have := pw_pos b
      grind
  · exact pw_mono
theorem pw_inj {a b : Int} (h : pw a = pw b) : a = b := by
  have h1 := pw_le_iff.mp (by rw [h]; exact Rat.le_refl : pw a ≤ pw b)
  have h2 := pw_le_iff.mp (by rw [h]; exact Rat.le_refl : pw b ≤ pw a)
  omega
theorem pw_neg_mul (e : Int) : pw (-e) * pw e = 1 := by rw [← pw_add, Int.add_left_neg, pw_zero]

/-- Whole numbers times one power of two: comparisons are those of the whole numbers. -/
theorem mul_pw_le {a b : Int} {e : Int} : (a : Rat) * pw e ≤ b * pw e ↔ a ≤ b := by
  have hp := pw_pos e
  constructor
  · intro h
    exact Rat.intCast_le_intCast.mp (Rat.le_of_mul_le_mul_right h hp)
  · intro h
    exact Rat.mul_le_mul_of_nonneg_right (Rat.intCast_le_intCast.mpr h) (Rat.le_of_lt hp)
theorem mul_pw_lt {a b : Int} {e : Int} : (a : Rat) * pw e < b * pw e ↔ a < b := by
  rw [← Rat.not_le, mul_pw_le, Int.not_le]
theorem mul_pw_inj {a b : Int} {e : Int} (h : (a : Rat) * pw e = b * pw e) : a = b := by
  have h1 := (mul_pw_le (e := e)).mp (by rw [h]; exact Rat.le_refl : (a : Rat) * pw e ≤ b * pw e)
  have h2 := (mul_pw_le (e := e)).mp (by rw [h]; exact Rat.le_refl : (b : Rat) * pw e ≤ a * pw e)
  omega
theorem mul_le_mul_right {a b c : Rat} (h : a ≤ b) (hc : 0 ≤ c) : a * c ≤ b * c := Rat.mul_le_mul_of_nonneg_right h hc

/-- n times 2^q is nearest to x (above 0), of two the even one. -/
structure Rnd (x : Rat) (q n : Int) : Prop where
  hq : -1074 ≤ q
  lo : q = -1074 ∨ (4503599627370496 : Int) * pw q ≤ x
  hi : x < (9007199254740992 : Int) * pw q
  pos : 0 < x
  near1 : 2 * x ≤ (2 * n + 1 : Int) * pw q
  near2 : (2 * n - 1 : Int) * pw q ≤ 2 * x
  tie1 : 2 * x = (2 * n + 1 : Int) * pw q → n % 2 = 0
  tie2 : 2 * x = (2 * n - 1 : Int) * pw q → n % 2 = 0

theorem Rnd.q_le {x y : Rat} {q n q' n' : Int} (h : Rnd x q n) (h' : Rnd y q' n') (hxy : x ≤ y) : q ≤ q' := by
  by_cases hc : q ≤ q'
  · exact hc
  · exfalso
    have hc := Int.not_le.mp hc
    have h1 : (4503599627370496 : Int) * pw q ≤ x := by
      rcases h.lo with h1 | h1
      · have := h'.hq; omega
      · exact h1
    have h2 := h'.hi
    have h3 := pw_lt hc
    push_cast at h1 h2
    grind
theorem Rnd.n_le {x : Rat} {q n : Int} (h : Rnd x q n) : n ≤ 9007199254740992 := by
  have h1 := h.near2
  have h2 := h.hi
  have h3 : (2 * n - 1 : Int) * pw q < (18014398509481984 : Int) * pw q := by push_cast at h1 h2 ⊢; grind
  have := mul_pw_lt.mp h3
  omega
theorem Rnd.n_ge {x : Rat} {q n : Int} (h : Rnd x q n) (hlo : (4503599627370496 : Int) * pw q ≤ x) : 4503599627370496 ≤ n := by
  have h1 := h.near1
  have h3 : (9007199254740992 : Int) * pw q ≤ (2 * n + 1 : Int) * pw q := by push_cast at h1 hlo ⊢; grind
  have := mul_pw_le.mp h3
  omega
theorem Rnd.n_nonneg {x : Rat} {q n : Int} (h : Rnd x q n) : 0 ≤ n := by
  have h1 := h.near1
  have h2 := h.pos
  have h3 : (0 : Int) * pw q < (2 * n + 1 : Int) * pw q := by push_cast at h1 ⊢; grind
  have := mul_pw_lt.mp h3
  omega
theorem Rnd.n_mono {x y : Rat} {q n n' : Int} (h : Rnd x q n) (h' : Rnd y q n') (hxy : x ≤ y) : n ≤ n' := by
  by_cases hc : n ≤ n'
  · exact hc
  · exfalso
    have hc := Int.not_le.mp hc
    have h1 := h.near2
    have h2 := h'.near1
    have h3 : (2 * n - 1 : Int) * pw q ≤ (2 * n' + 1 : Int) * pw q := by grind
    have h4 := mul_pw_le.mp h3
    have e : n = n' + 1 := by omega
    subst e
    have e1 : (2 * (n' + 1) - 1 : Int) = 2 * n' + 1 := by omega
    rw [e1] at h1
    have hx : 2 * x = (2 * n' + 1 : Int) * pw q := by grind
    have hy : 2 * y = (2 * n' + 1 : Int) * pw q := by grind
    have t1 := h'.tie1 hy
    have t2 := h.tie2 (by rw [e1]; exact hx)
    omega
theorem Rnd.unique {x : Rat} {q n q' n' : Int} (h : Rnd x q n) (h' : Rnd x q' n') : q = q' ∧ n = n' := by
  have h1 := h.q_le h' Rat.le_refl
  have h2 := h'.q_le h Rat.le_refl
  obtain rfl : q = q' := by omega
  have h3 := h.n_mono h' Rat.le_refl
  have h4 := h'.n_mono h Rat.le_refl
  omega

/-- The pattern of n times 2^q, where exponents have no upper bound. -/
def enc (q n : Int) : Int := (q + 1074) * 4503599627370496 + n

theorem Rnd.enc_mono {x y : Rat} {q n q' n' : Int} (h : Rnd x q n) (h' : Rnd y q' n') (hxy : x ≤ y) : enc q n ≤ enc q' n' := by
  have h1 := h.q_le h' hxy
  by_cases hc : q = q'
  · subst hc
    have := h.n_mono h' hxy
    unfold enc
    omega
  · have h2 := h.n_le
    have h3 : 4503599627370496 ≤ n' := by
      rcases h'.lo with h3 | h3
      · have := h.hq; omega
      · exact h'.n_ge h3
    unfold enc
    omega
theorem Rnd.enc_nonneg {x : Rat} {q n : Int} (h : Rnd x q n) : 0 ≤ enc q n := by
  have := h.hq; have := h.n_nonneg; unfold enc; omega

/-- A pattern without its sign: its whole number, its power, its value. -/
def mant (m : Int) : Int := if m < 4503599627370496 then m else m % 4503599627370496 + 4503599627370496
def expo (m : Int) : Int := if m < 4503599627370496 then -1074 else m / 4503599627370496 - 1075
def vm (m : Int) : Rat := (mant m : Rat) * pw (expo m)

theorem enc_mant (m : Int) (h : 0 ≤ m) : enc (expo m) (mant m) = m := by
  unfold enc expo mant
  split <;> omega
theorem mant_nonneg {m : Int} (h : 0 ≤ m) : 0 ≤ mant m := by unfold mant; split <;> omega
theorem mant_lt {m : Int} : mant m < 9007199254740992 := by unfold mant; split <;> omega
theorem expo_ge {m : Int} (h : 0 ≤ m) : -1074 ≤ expo m := by unfold expo; split <;> omega
theorem mant_ge {m : Int} (h : 0 ≤ m) : expo m = -1074 ∨ 4503599627370496 ≤ mant m := by unfold expo mant; split <;> omega
theorem vm_zero : vm 0 = 0 := by unfold vm mant; simp
theorem vm_nonneg {m : Int} (h : 0 ≤ m) : 0 ≤ vm m := by
  unfold vm
  have h1 : (0 : Rat) ≤ (mant m : Rat) := by exact_mod_cast mant_nonneg h
  exact Rat.mul_nonneg h1 (Rat.le_of_lt (pw_pos _))
theorem mant_pos {m : Int} (h : 0 < m) : 0 < mant m := by unfold mant; split <;> omega
theorem vm_pos {m : Int} (h : 0 < m) : 0 < vm m := by
  unfold vm
  have h1 : (0 : Rat) < (mant m : Rat) := by exact_mod_cast mant_pos h
  exact Rat.mul_pos h1 (pw_pos _)

/-- A number that is told already is nearest to itself. -/
theorem Rnd.self {q n : Int} (hq : -1074 ≤ q) (hn : 0 < n) (h1 : n < 9007199254740992) (h2 : q = -1074 ∨ 4503599627370496 ≤ n) : Rnd ((n : Rat) * pw q) q n := by
  have hp := pw_pos q
  have hn' : (0 : Rat) < (n : Rat) := by exact_mod_cast hn
  refine ⟨hq, ?_, mul_pw_lt.mpr h1, Rat.mul_pos hn' hp, ?_, ?_, ?_, ?_⟩
  · rcases h2 with h2 | h2
    · exact .inl h2
    · exact .inr (mul_pw_le.mpr h2)
  · push_cast; grind
  · push_cast; grind
  · intro h; push_cast at h; grind
  · intro h; push_cast at h; grind
theorem Rnd.of_vm {m : Int} (h : 0 < m) : Rnd (vm m) (expo m) (mant m) :=
  Rnd.self (expo_ge (Int.le_of_lt h)) (mant_pos h) mant_lt (mant_ge (Int.le_of_lt h))

theorem vm_mono {m m' : Int} (h0 : 0 ≤ m) (h : m ≤ m') : vm m ≤ vm m' := by
  by_cases hm : m = 0
  · subst hm; rw [vm_zero]; exact vm_nonneg (by omega)
  · by_cases hc : vm m ≤ vm m'
    · exact hc
    · have h1 := (Rnd.of_vm (m := m') (by omega)).enc_mono (Rnd.of_vm (m := m) (by omega)) (Rat.le_of_lt (Rat.not_le.mp hc))
      rw [enc_mant _ (by omega), enc_mant _ (by omega)] at h1
      obtain rfl : m = m' := by omega
      exact Rat.le_refl
theorem vm_le_iff {m m' : Int} (h0 : 0 ≤ m) (h0' : 0 ≤ m') : vm m ≤ vm m' ↔ m ≤ m' := by
  constructor
  · intro h
    by_cases hm : m = 0
    · omega
    · by_cases hm' : m' = 0
      · subst hm'; rw [vm_zero] at h; have := vm_pos (m := m) (by omega); grind
      · have h1 := (Rnd.of_vm (m := m) (by omega)).enc_mono (Rnd.of_vm (m := m') (by omega)) h
        rwa [enc_mant _ (by omega), enc_mant _ (by omega)] at h1
  · exact vm_mono h0
theorem vm_inj {m m' : Int} (h0 : 0 ≤ m) (h0' : 0 ≤ m') (h : vm m = vm m') : m = m' := by
  have h1 := (vm_le_iff h0 h0').mp (by rw [h]; exact Rat.le_refl)
  have h2 := (vm_le_iff h0' h0).mp (by rw [h]; exact Rat.le_refl)
  omega
theorem vm_lt_iff {m m' : Int} (h0 : 0 ≤ m) (h0' : 0 ≤ m') : vm m < vm m' ↔ m < m' := by
  rw [← Rat.not_le, vm_le_iff h0' h0, Int.not_le]

/-- The value of what comes of rounding. -/
theorem vm_enc {q n : Int} (hq : -1074 ≤ q) (hn : 0 ≤ n) (h1 : n ≤ 9007199254740992) (h2 : q = -1074 ∨ 4503599627370496 ≤ n) : vm (enc q n) = (n : Rat) * pw q := by
  unfold vm
  by_cases ha : n < 4503599627370496
  · obtain rfl : q = -1074 := by omega
    have e : enc (-1074) n = n := by unfold enc; omega
    rw [e]
    unfold mant expo
    rw [if_pos ha, if_pos ha]
  · by_cases hb : n = 9007199254740992
    · subst hb
      have e1 : mant (enc q 9007199254740992) = 4503599627370496 := by unfold mant enc; rw [if_neg (by omega)]; omega
      have e2 : expo (enc q 9007199254740992) = q + 1 := by unfold expo enc; rw [if_neg (by omega)]; omega
      rw [e1, e2, pw_succ]
      push_cast
      grind
    · have e1 : mant (enc q n) = n := by unfold mant enc; rw [if_neg (by omega)]; omega
      have e2 : expo (enc q n) = q := by unfold expo enc; rw [if_neg (by omega)]; omega
      rw [e1, e2]
theorem Rnd.n_ge' {x : Rat} {q n : Int} (h : Rnd x q n) : q = -1074 ∨ 4503599627370496 ≤ n := by
  rcases h.lo with h1 | h1
  · exact .inl h1
  · exact .inr (h.n_ge h1)
theorem Rnd.val_enc {x : Rat} {q n : Int} (h : Rnd x q n) : vm (enc q n) = (n : Rat) * pw q :=
  vm_enc h.hq h.n_nonneg h.n_le h.n_ge'

/-- What rounding answers: a pattern without sign, and flags. -/
def INF : Int := 9218868437227405312
structure RB (x : Rat) (b f : Int) : Prop where
  ex : ∃ q n, Rnd x q n ∧ b = (if enc q n < INF then enc q n else INF) ∧
    f = if enc q n < INF then (if x = (n : Rat) * pw q then 0 else if x < pw (-1022) then 3 else 1) else 5

theorem RB.unique {x : Rat} {b f b' f' : Int} (h : RB x b f) (h' : RB x b' f') : b = b' ∧ f = f' := by
  obtain ⟨q, n, hr, rfl, rfl⟩ := h.ex
  obtain ⟨q', n', hr', rfl, rfl⟩ := h'.ex
  obtain ⟨rfl, rfl⟩ := hr.unique hr'
  exact ⟨rfl, rfl⟩
theorem RB.mono {x y : Rat} {b f b' f' : Int} (h : RB x b f) (h' : RB y b' f') (hxy : x ≤ y) : b ≤ b' := by
  obtain ⟨q, n, hr, rfl, rfl⟩ := h.ex
  obtain ⟨q', n', hr', rfl, rfl⟩ := h'.ex
  have := hr.enc_mono hr' hxy
  split <;> split <;> omega
theorem RB.range {x : Rat} {b f : Int} (h : RB x b f) : 0 ≤ b ∧ b ≤ INF := by
  obtain ⟨q, n, hr, rfl, rfl⟩ := h.ex
  have := hr.enc_nonneg
  unfold INF
  split <;> omega
/-- A number is rounded to itself. -/
theorem RB.self {m : Int} (h : 0 < m) (hm : m < INF) : RB (vm m) m 0 := by
  refine ⟨expo m, mant m, Rnd.of_vm h, ?_, ?_⟩
  · rw [enc_mant m (by omega), if_pos hm]
  · rw [enc_mant m (by omega), if_pos hm]; exact (if_pos rfl).symm
end Gim
