/- What the functions of package wide answer: two words as one whole number. -/
import Derived.Test.YtnjobojkoaknpaaTWord
import Derived.Test.YtnjobojkoaknpaaFx2
import Derived.Test.YtnjobojkoaknpaaFx3
namespace Gim
open Go Go.RowKit Go.Proofs.YtnjobojkoaknpaaW.PrintWords Go.Proofs.YtnjobojkoaknpaaW.PrintLast Go.Proofs.YtnjobojkoaknpaaW.PrintMore Go.Proofs.Ytnjobojkoaknpaa.F
set_option linter.unusedVariables false

/-- Two words as one number. -/
def wv (h l : Int) : Int := h * 18446744073709551616 + l
/-- A power of two, as a whole number. -/
def p2 (n : Int) : Int := 2 ^ n.toNat
theorem p2_pos (n : Int) : 0 < p2 n := Int.pow_pos (by decide)
theorem p2_add {a b : Int} (ha : 0 ≤ a) (hb : 0 ≤ b) : p2 (a + b) = p2 a * p2 b := by
  unfold p2
  rw [Int.toNat_add ha hb, Int.pow_add]
theorem p2_0 : p2 0 = 1 := rfl
theorem p2_1 : p2 1 = 2 := rfl
theorem p2_64 : p2 64 = 18446744073709551616 := by decide
theorem p2_128 : p2 128 = 340282366920938463463374607431768211456 := by decide
theorem p2_le {a b : Int} (h : a ≤ b) : p2 a ≤ p2 b := by
  unfold p2
  have : a.toNat ≤ b.toNat := by omega
  exact_mod_cast Nat.pow_le_pow_right (by decide : 0 < 2) this
theorem p2_succ {a : Int} (h : 0 ≤ a) : p2 (a + 1) = 2 * p2 a := by rw [p2_add h (by decide), p2_1, Int.mul_comm]
theorem p2_neg {a : Int} (h : a ≤ 0) : p2 a = 1 := by unfold p2; rw [show a.toNat = 0 from by omega]; rfl
theorem pw_p2 {a : Int} (h : 0 ≤ a) : pw a = (p2 a : Rat) := by
  obtain ⟨n, rfl⟩ := Int.eq_ofNat_of_zero_le h
  rw [pw_nat]
  rfl

theorem wv_range {h l : Int} (hh : U h) (hl : U l) : 0 ≤ wv h l ∧ wv h l < 340282366920938463463374607431768211456 := by
  obtain ⟨a, b⟩ := hh; obtain ⟨c, d⟩ := hl; unfold wv; omega
theorem wv_inj {h l h' l' : Int} (hh : U h) (hl : U l) (hh' : U h') (hl' : U l') (e : wv h l = wv h' l') : h = h' ∧ l = l' := by
  obtain ⟨a, b⟩ := hh; obtain ⟨c, d⟩ := hl; obtain ⟨a', b'⟩ := hh'; obtain ⟨c', d'⟩ := hl'; unfold wv at e; omega

theorem shl_u64 {x n : Int} (hn : 0 ≤ n) (hn' : n ≤ 64) : shl .u64 x n = x * p2 n % 18446744073709551616 := by
  unfold shl p2
  rw [wu64_mod, show min n.toNat (IntKind.bits .u64) = n.toNat from Nat.min_eq_left (by simp [IntKind.bits]; omega)]
theorem shr_u64 {x n : Int} (hn : 0 ≤ n) (hn' : n ≤ 64) : shr .u64 x n = x / p2 n := by
  unfold shr p2
  rw [show min n.toNat (IntKind.bits .u64) = n.toNat from Nat.min_eq_left (by simp [IntKind.bits]; omega)]

theorem wide_Zero_eq {h l : Int} (hh : U h) (hl : U l) : wide_Wide_Zero.f h l = some (decide (wv h l = 0)) := by
  unfold wide_Wide_Zero.f
  rw [u64_or_zero hh.1 hh.2 hl.1 hl.2]
  congr 1
  rw [Bool.eq_iff_iff]
  obtain ⟨a, b⟩ := hh; obtain ⟨c, d⟩ := hl
  unfold wv
  simp
  omega

/-- What lies in two words below and above a cut at n bits. -/
theorem part_lt {x P Q : Int} (hx : U x) (hP : 0 < P) (hQ : 0 < Q) (h : P * Q = 18446744073709551616) : 0 ≤ x / Q ∧ x / Q < P ∧ 0 ≤ x % Q ∧ x % Q < Q ∧ x = x / Q * Q + x % Q := by
  obtain ⟨h0, h1⟩ := hx
  have e := Int.mul_ediv_add_emod x Q
  have r0 := Int.emod_nonneg x (Int.ne_of_gt hQ)
  have r1 := Int.emod_lt_of_pos x hQ
  refine ⟨Int.ediv_nonneg h0 (Int.le_of_lt hQ), ?_, r0, r1, by rw [Int.mul_comm]; exact e.symm⟩
  exact Int.ediv_lt_of_lt_mul hQ (by rw [h]; exact h1)

theorem mul_mod_cut {x P Q : Int} (hx : U x) (hP : 0 < P) (hQ : 0 < Q) (h : P * Q = 18446744073709551616) : x * P % 18446744073709551616 = x % Q * P ∧ 0 ≤ x % Q * P ∧ x % Q * P ≤ 18446744073709551616 - P := by
  obtain ⟨a0, a1, b0, b1, e⟩ := part_lt hx hP hQ h
  have h2 : 0 ≤ x % Q * P := Int.mul_nonneg b0 (Int.le_of_lt hP)
  have h3 : x % Q * P ≤ 18446744073709551616 - P := by
    have : x % Q * P ≤ (Q - 1) * P := Int.mul_le_mul_of_nonneg_right (by omega) (Int.le_of_lt hP)
    have e2 : (Q - 1) * P = 18446744073709551616 - P := by rw [← h]; grind
    omega
  refine ⟨?_, h2, h3⟩
  have e3 : x * P = x / Q * 18446744073709551616 + x % Q * P := by
    rw [← h]; generalize x / Q = A at *; generalize x % Q = B at *; subst e; grind
  rw [e3]
  omega

theorem wide_Left_eq {h l n : Int} (hh : U h) (hl : U l) (hn : n ≤ 4611686018427387904) : ∃ h' l', wide_Wide_Left.f h l n = some (h', l') ∧ U h' ∧ U l' ∧ wv h' l' = wv h l * p2 n % 340282366920938463463374607431768211456 := by
  have hv := wv_range hh hl
  unfold wide_Wide_Left.f
  by_cases h1 : n ≤ 0
  · rw [if_pos h1]
    refine ⟨h, l, rfl, hh, hl, ?_⟩
    rw [p2_neg h1]
    omega
  · rw [if_neg h1]
    by_cases h2 : n ≥ 128
    · rw [if_pos h2]
      refine ⟨0, 0, rfl, ⟨by decide, by decide⟩, ⟨by decide, by decide⟩, ?_⟩
      have e : p2 n = p2 128 * p2 (n - 128) := by rw [← p2_add (by omega) (by omega)]; congr 1; omega
      rw [e, p2_128]
      have : wv h l * (340282366920938463463374607431768211456 * p2 (n - 128)) = 340282366920938463463374607431768211456 * (wv h l * p2 (n - 128)) := by grind
      rw [this, Int.mul_emod_right]
      rfl
    · rw [if_neg h2]
      by_cases h3 : n ≥ 64
      · rw [if_pos h3, w64 (by omega) (by omega), if_pos (by omega), shl_u64 (by omega) (by omega)]
        refine ⟨_, _, rfl, ⟨by omega, by omega⟩, ⟨by decide, by decide⟩, ?_⟩
        have e : p2 n = 18446744073709551616 * p2 (n - 64) := by rw [← p2_64, ← p2_add (by omega) (by omega)]; congr 1; omega
        rw [e]
        have e2 : wv h l * (18446744073709551616 * p2 (n - 64)) = 340282366920938463463374607431768211456 * (h * p2 (n - 64)) + (l * p2 (n - 64)) * 18446744073709551616 := by unfold wv; grind
        rw [e2]
        generalize h * p2 (n - 64) = X
        generalize l * p2 (n - 64) = Y
        unfold wv
        omega
      · rw [if_neg h3, if_pos (by omega), w64 (by omega) (by omega), if_pos (by omega), shl_u64 (by omega) (by omega), shl_u64 (by omega) (by omega), shr_u64 (by omega) (by omega)]
        have hP := p2_pos n
        have hQ := p2_pos (64 - n)
        have hPQ : p2 n * p2 (64 - n) = 18446744073709551616 := by rw [← p2_64, ← p2_add (by omega) (by omega)]; congr 1; omega
        obtain ⟨c0, c1, d0, d1, el⟩ := part_lt hl hP hQ hPQ
        obtain ⟨a0, a1, b0, b1, eh⟩ := part_lt hh hP hQ hPQ
        obtain ⟨mh, mh0, mh1⟩ := mul_mod_cut hh hP hQ hPQ
        obtain ⟨ml, ml0, ml1⟩ := mul_mod_cut hl hP hQ hPQ
        rw [mh, ml]
        have hmod : h % p2 (64 - n) * p2 n % 2 ^ n.toNat = 0 := by
          show h % p2 (64 - n) * p2 n % p2 n = 0
          exact Int.mul_emod_left _ _
        rw [u64_or n.toNat mh0 hmod (by omega) c0 c1 (by omega)]
        refine ⟨_, _, rfl, ⟨by omega, by omega⟩, ⟨by omega, by omega⟩, ?_⟩
        have e : wv h l * p2 n = h / p2 (64 - n) * 340282366920938463463374607431768211456 + wv (h % p2 (64 - n) * p2 n + l / p2 (64 - n)) (l % p2 (64 - n) * p2 n) := by
          unfold wv
          generalize h / p2 (64 - n) = A at *
          generalize h % p2 (64 - n) = B at *
          generalize l / p2 (64 - n) = C at *
          generalize l % p2 (64 - n) = D at *
          generalize p2 n = P at *
          generalize p2 (64 - n) = Q at *
          subst eh el
          have : (340282366920938463463374607431768211456 : Int) = P * Q * (P * Q) := by rw [hPQ]; decide
          rw [this, ← hPQ]
          grind
        rw [e]
        have hr := wv_range (h := h % p2 (64 - n) * p2 n + l / p2 (64 - n)) (l := l % p2 (64 - n) * p2 n) ⟨by omega, by omega⟩ ⟨by omega, by omega⟩
        omega

theorem cut_div {v P : Int} (hP : 0 < P) : v / P * P = v - v % P := by have := Int.mul_ediv_add_emod v P; rw [Int.mul_comm] at this; omega
/-- Times 2^n, less than 2^128. -/
theorem wide_Left_small {h l n : Int} (hh : U h) (hl : U l) (hn : n ≤ 4611686018427387904) (hs : wv h l * p2 n < 340282366920938463463374607431768211456) : ∃ h' l', wide_Wide_Left.f h l n = some (h', l') ∧ U h' ∧ U l' ∧ wv h' l' = wv h l * p2 n := by
  obtain ⟨h', l', e, u1, u2, ev⟩ := wide_Left_eq hh hl hn
  refine ⟨h', l', e, u1, u2, ?_⟩
  rw [ev, Int.emod_eq_of_lt (Int.mul_nonneg (wv_range hh hl).1 (Int.le_of_lt (p2_pos n))) hs]

theorem right_tail {h l n oh ol : Int} (hh : U h) (hl : U l) (ho : U oh) (ho' : U ol) (h1 : ¬ n ≤ 0) (hn : n ≤ 4611686018427387904) (ev : wv oh ol = wv h l / p2 n) :
    Ev (fun k => wide_Wide_Right.j0 k n h l oh ol) (oh, ol, decide (wv h l % p2 n ≠ 0)) := by
  have hv := wv_range hh hl
  have hP := p2_pos n
  have hr0 := Int.emod_nonneg (wv h l) (Int.ne_of_gt hP)
  have hc := cut_div (v := wv h l) hP
  have hle : wv oh ol * p2 n < 340282366920938463463374607431768211456 := by rw [ev, hc]; omega
  obtain ⟨h', l', e, u1, u2, ev2⟩ := wide_Left_small ho ho' hn hle
  refine Ev.succ ?_
  simp only [wide_Wide_Right.j0]
  refine Ev.call e ?_
  dsimp only
  rw [ev, hc] at ev2
  by_cases hz : wv h l % p2 n = 0
  · have ee := wv_inj u1 u2 hh hl (by rw [ev2, hz]; omega)
    obtain ⟨rfl, rfl⟩ := ee
    refine Ev.neg (by simp) ?_
    rw [show decide (wv h' l' % p2 n ≠ 0) = false from by simp [hz]]
    by_cases h2 : n ≥ 128
    · refine Ev.pos h2 (Ev.call (wide_Zero_eq hh hl) ?_)
      have : wv h' l' = 0 := by
        have := Int.emod_eq_of_lt hv.1 (show wv h' l' < p2 n from by have := p2_le h2; rw [p2_128] at this; omega)
        omega
      rw [decide_eq_true this]
      exact Ev.now _
    · exact Ev.neg h2 (Ev.now _)
  · refine Ev.pos ?_ ?_
    · by_cases hc1 : h' = h
      · by_cases hc2 : l' = l
        · subst hc1 hc2; omega
        · simp [hc2]
      · simp [hc1]
    · rw [show decide (wv h l % p2 n ≠ 0) = true from by simp [hz]]
      exact Ev.now _
theorem wide_Right_ev {h l n : Int} (hh : U h) (hl : U l) (hn : n ≤ 4611686018427387904) : ∃ h' l', Ev (fun k => wide_Wide_Right.f k h l n) (h', l', decide (wv h l % p2 n ≠ 0)) ∧ U h' ∧ U l' ∧ wv h' l' = wv h l / p2 n := by
  have hv := wv_range hh hl
  unfold wide_Wide_Right.f
  by_cases h1 : n ≤ 0
  · rw [p2_neg h1]
    refine ⟨h, l, ?_, hh, hl, by omega⟩
    rw [show decide (wv h l % 1 ≠ 0) = false from by simp]
    exact Ev.pos h1 (Ev.now _)
  · by_cases h2 : n ≥ 128
    · have e0 : wv 0 0 = wv h l / p2 n := by
        have : wv h l < p2 n := by have := p2_le h2; rw [p2_128] at this; omega
        rw [Int.ediv_eq_zero_of_lt hv.1 this]; rfl
      have u0 : U 0 := ⟨by decide, by decide⟩
      exact ⟨0, 0, Ev.neg h1 (Ev.pos h2 (right_tail hh hl u0 u0 h1 hn e0)), u0, u0, e0⟩
    · by_cases h3 : n ≥ 64
      · have u0 : U 0 := ⟨by decide, by decide⟩
        have hP := p2_pos (n - 64)
        have hh' := hh
        obtain ⟨x0, x1⟩ := hh
        have u1 : U (h / p2 (n - 64)) := ⟨Int.ediv_nonneg x0 (Int.le_of_lt hP), by have := Int.ediv_le_self (p2 (n - 64)) x0; omega⟩
        have e0 : wv 0 (h / p2 (n - 64)) = wv h l / p2 n := by
          have e : p2 n = 18446744073709551616 * p2 (n - 64) := by rw [← p2_64, ← p2_add (by omega) (by omega)]; congr 1; omega
          have e3 : wv h l / 18446744073709551616 = h := by obtain ⟨y0, y1⟩ := hl; unfold wv; omega
          rw [e, ← Int.ediv_ediv_of_nonneg (by decide), e3]
          unfold wv; omega
        refine ⟨0, h / p2 (n - 64), Ev.neg h1 (Ev.neg h2 (Ev.pos h3 ?_)), u0, u1, e0⟩
        rw [w64 (by omega) (by omega), shr_u64 (by omega) (by omega)]
        exact Ev.pos (by omega) (right_tail hh' hl u0 u1 h1 hn e0)
      · have hP := p2_pos n
        have hQ := p2_pos (64 - n)
        have hQP : p2 (64 - n) * p2 n = 18446744073709551616 := by rw [← p2_64, ← p2_add (by omega) (by omega)]; congr 1; omega
        obtain ⟨c0, c1, d0, d1, el⟩ := part_lt hl hQ hP hQP
        obtain ⟨a0, a1, b0, b1, eh⟩ := part_lt hh hQ hP hQP
        obtain ⟨mh, mh0, mh1⟩ := mul_mod_cut hh hQ hP hQP
        have hP1 : 1 ≤ p2 n := hP
        have hQ1 : p2 (64 - n) ≤ 18446744073709551616 := by rw [← p2_64]; exact p2_le (by omega)
        have u1 : U (h / p2 n) := ⟨a0, by omega⟩
        have u2 : U (h % p2 n * p2 (64 - n) + l / p2 n) := ⟨by omega, by omega⟩
        have e0 : wv (h / p2 n) (h % p2 n * p2 (64 - n) + l / p2 n) = wv h l / p2 n := by
          have e1 : wv h l = wv (h / p2 n) (h % p2 n * p2 (64 - n) + l / p2 n) * p2 n + l % p2 n := by
            unfold wv
            generalize h / p2 n = A at *
            generalize h % p2 n = B at *
            generalize l / p2 n = C at *
            generalize l % p2 n = D at *
            generalize p2 n = P at *
            generalize p2 (64 - n) = Q at *
            subst eh el
            rw [← hQP]
            grind
          rw [e1, Int.add_comm _ (l % p2 n), Int.add_mul_ediv_right _ _ (Int.ne_of_gt hP), Int.ediv_eq_zero_of_lt d0 d1, Int.zero_add]
        refine ⟨_, _, Ev.neg h1 (Ev.neg h2 (Ev.neg h3 (Ev.pos (by omega) ?_))), u1, u2, e0⟩
        rw [w64 (by omega) (by omega), shr_u64 (by omega) (by omega), shl_u64 (by omega) (by omega), shr_u64 (by omega) (by omega), mh]
        have hmod : h % p2 n * p2 (64 - n) % 2 ^ (64 - n).toNat = 0 := by
          show h % p2 n * p2 (64 - n) % p2 (64 - n) = 0
          exact Int.mul_emod_left _ _
        rw [u64_or (64 - n).toNat mh0 hmod (by omega) c0 c1 (by omega)]
        exact Ev.pos (by omega) (right_tail hh hl u1 u2 h1 hn e0)

theorem wide_Add_eq {h l h' l' : Int} (hh : U h) (hl : U l) (hh' : U h') (hl' : U l') : ∃ a b, wide_Wide_Add.f h l h' l' = some (a, b, decide (340282366920938463463374607431768211456 ≤ wv h l + wv h' l')) ∧ U a ∧ U b ∧ wv a b = (wv h l + wv h' l') % 340282366920938463463374607431768211456 := by
  obtain ⟨x0, x1⟩ := hh; obtain ⟨x2, x3⟩ := hl; obtain ⟨x4, x5⟩ := hh'; obtain ⟨x6, x7⟩ := hl'
  unfold wide_Wide_Add.f bits_Add64.f
  rw [if_pos x2, if_pos x6, if_pos (by decide), if_pos (by decide)]
  simp only [Option.bind_some]
  rw [if_pos x0, if_pos x4, if_pos (by omega), if_pos (by omega)]
  simp only [Option.bind_some]
  refine ⟨_, _, congrArg some (Prod.ext rfl (Prod.ext rfl ?_)), ⟨by omega, by omega⟩, ⟨by omega, by omega⟩, ?_⟩
  · rw [Bool.eq_iff_iff]
    unfold wv
    simp
    omega
  · unfold wv
    omega

/-- How many bits a whole number has. -/
def blen (x : Int) : Int := if x ≤ 0 then 0 else (Nat.log2 x.toNat : Int) + 1
theorem blen_pos {x : Int} (h : 0 < x) : 1 ≤ blen x ∧ p2 (blen x - 1) ≤ x ∧ x < p2 (blen x) := by
  unfold blen p2
  rw [if_neg (by omega)]
  obtain ⟨n, rfl⟩ := Int.eq_ofNat_of_zero_le (Int.le_of_lt h)
  have hn : n ≠ 0 := by omega
  have h1 := Nat.log2_self_le hn
  have h2 := Nat.lt_log2_self (n := n)
  simp only [Int.toNat_natCast]
  refine ⟨by omega, ?_, ?_⟩
  · rw [show ((n.log2 : Int) + 1 - 1).toNat = n.log2 from by omega]; exact_mod_cast h1
  · rw [show ((n.log2 : Int) + 1).toNat = n.log2 + 1 from by omega]; exact_mod_cast h2
theorem blen_nonneg (x : Int) : 0 ≤ blen x := by unfold blen; split <;> omega
theorem blen_unique {x L : Int} (hL : 1 ≤ L) (h1 : p2 (L - 1) ≤ x) (h2 : x < p2 L) : blen x = L := by
  have hx : 0 < x := by have := p2_pos (L - 1); omega
  obtain ⟨b0, b1, b2⟩ := blen_pos hx
  have h3 : ¬ blen x < L := fun hc => by have := p2_le (show blen x ≤ L - 1 from by omega); omega
  have h4 : ¬ L < blen x := fun hc => by have := p2_le (show L ≤ blen x - 1 from by omega); omega
  omega
theorem blen_zero : blen 0 = 0 := by unfold blen; simp
theorem blen_shift {x s : Int} (hs : 0 ≤ s) (hx : p2 s ≤ x) : blen x = s + blen (x / p2 s) := by
  have hP := p2_pos s
  have hq : 0 < x / p2 s := by have := Int.le_ediv_of_mul_le hP (show 1 * p2 s ≤ x from by omega); omega
  obtain ⟨b0, b1, b2⟩ := blen_pos hq
  have e := Int.mul_ediv_add_emod x (p2 s)
  have r0 := Int.emod_nonneg x (Int.ne_of_gt hP)
  have r1 := Int.emod_lt_of_pos x hP
  refine blen_unique (by omega) ?_ ?_
  · have : p2 (s + blen (x / p2 s) - 1) = p2 s * p2 (blen (x / p2 s) - 1) := by rw [← p2_add hs (by omega)]; congr 1; omega
    rw [this]
    have := Int.mul_le_mul_of_nonneg_left b1 (Int.le_of_lt hP)
    omega
  · rw [p2_add hs (by omega)]
    have : p2 s * (x / p2 s + 1) ≤ p2 s * p2 (blen (x / p2 s)) := Int.mul_le_mul_of_nonneg_left b2 (Int.le_of_lt hP)
    have e2 : p2 s * (x / p2 s + 1) = p2 s * (x / p2 s) + p2 s := by grind
    omega
theorem blen_le {x L : Int} (hL : 0 ≤ L) (h : x < p2 L) : blen x ≤ L := by
  by_cases hx : 0 < x
  · obtain ⟨b0, b1, b2⟩ := blen_pos hx
    exact Int.not_lt.mp (fun hc => by have := p2_le (show L ≤ blen x - 1 from by omega); omega)
  · unfold blen; rw [if_pos (by omega)]; exact hL
theorem blen_tab : ∀ i : Fin 256, bt (⟨#[0, 1, 2, 2, 3, 3, 3, 3, 4, 4, 4, 4, 4, 4, 4, 4, 5, 5, 5, 5, 5, 5, 5, 5, 5, 5, 5, 5, 5, 5, 5, 5, 6, 6, 6, 6, 6, 6, 6, 6, 6, 6, 6, 6, 6, 6, 6, 6, 6, 6, 6, 6, 6, 6, 6, 6, 6, 6, 6, 6, 6, 6, 6, 6, 7, 7, 7, 7, 7, 7, 7, 7, 7, 7, 7, 7, 7, 7, 7, 7, 7, 7, 7, 7, 7, 7, 7, 7, 7, 7, 7, 7, 7, 7, 7, 7, 7, 7, 7, 7, 7, 7, 7, 7, 7, 7, 7, 7, 7, 7, 7, 7, 7, 7, 7, 7, 7, 7, 7, 7, 7, 7, 7, 7, 7, 7, 7, 7, 8, 8, 8, 8, 8, 8, 8, 8, 8, 8, 8, 8, 8, 8, 8, 8, 8, 8, 8, 8, 8, 8, 8, 8, 8, 8, 8, 8, 8, 8, 8, 8, 8, 8, 8, 8, 8, 8, 8, 8, 8, 8, 8, 8, 8, 8, 8, 8, 8, 8, 8, 8, 8, 8, 8, 8, 8, 8, 8, 8, 8, 8, 8, 8, 8, 8, 8, 8, 8, 8, 8, 8, 8, 8, 8, 8, 8, 8, 8, 8, 8, 8, 8, 8, 8, 8, 8, 8, 8, 8, 8, 8, 8, 8, 8, 8, 8, 8, 8, 8, 8, 8, 8, 8, 8, 8, 8, 8, 8, 8, 8, 8, 8, 8, 8, 8, 8, 8, 8, 8, 8, 8, 8, 8, 8, 8, 8, 8]⟩ : ByteArray) (i.val : Int) = blen (i.val : Int) := by decide +kernel
theorem blen_tab_eq {i : Int} (h0 : 0 ≤ i) (h1 : i < 256) : bt (⟨#[0, 1, 2, 2, 3, 3, 3, 3, 4, 4, 4, 4, 4, 4, 4, 4, 5, 5, 5, 5, 5, 5, 5, 5, 5, 5, 5, 5, 5, 5, 5, 5, 6, 6, 6, 6, 6, 6, 6, 6, 6, 6, 6, 6, 6, 6, 6, 6, 6, 6, 6, 6, 6, 6, 6, 6, 6, 6, 6, 6, 6, 6, 6, 6, 7, 7, 7, 7, 7, 7, 7, 7, 7, 7, 7, 7, 7, 7, 7, 7, 7, 7, 7, 7, 7, 7, 7, 7, 7, 7, 7, 7, 7, 7, 7, 7, 7, 7, 7, 7, 7, 7, 7, 7, 7, 7, 7, 7, 7, 7, 7, 7, 7, 7, 7, 7, 7, 7, 7, 7, 7, 7, 7, 7, 7, 7, 7, 7, 8, 8, 8, 8, 8, 8, 8, 8, 8, 8, 8, 8, 8, 8, 8, 8, 8, 8, 8, 8, 8, 8, 8, 8, 8, 8, 8, 8, 8, 8, 8, 8, 8, 8, 8, 8, 8, 8, 8, 8, 8, 8, 8, 8, 8, 8, 8, 8, 8, 8, 8, 8, 8, 8, 8, 8, 8, 8, 8, 8, 8, 8, 8, 8, 8, 8, 8, 8, 8, 8, 8, 8, 8, 8, 8, 8, 8, 8, 8, 8, 8, 8, 8, 8, 8, 8, 8, 8, 8, 8, 8, 8, 8, 8, 8, 8, 8, 8, 8, 8, 8, 8, 8, 8, 8, 8, 8, 8, 8, 8, 8, 8, 8, 8, 8, 8, 8, 8, 8, 8, 8, 8, 8, 8, 8, 8, 8, 8]⟩ : ByteArray) i = blen i := by
  obtain ⟨n, rfl⟩ := Int.eq_ofNat_of_zero_le h0
  exact blen_tab ⟨n, by omega⟩
set_option maxRecDepth 100000 in
theorem bits_Len64_j0 {x s : Int} (h0 : 0 ≤ x) (h1 : x < 4294967296) (hs : 0 ≤ s) (hs' : s ≤ 64) : Ev (fun k => bits_Len64.j0 k x s) (s + blen x) := by
  refine Ev.succ ?_
  simp only [bits_Len64.j0]
  have q16 : p2 16 = 65536 := by decide
  have q8 : p2 8 = 256 := by decide
  by_cases c1 : x ≥ 65536
  · refine Ev.pos c1 ?_
    have e1 : blen x = 16 + blen (x / 65536) := by rw [← q16]; exact blen_shift (by decide) (by rw [q16]; exact c1)
    by_cases c2 : x / 65536 ≥ 256
    · refine Ev.pos c2 (Ev.pos (by omega) (Ev.pos (by omega) ?_))
      have e2 : blen (x / 65536) = 8 + blen (x / 65536 / 256) := by rw [← q8]; exact blen_shift (by decide) (by rw [q8]; exact c2)
      rw [blen_tab_eq (by omega) (by omega), show x / 65536 / 256 % 256 = x / 65536 / 256 from by omega]
      have b1 := blen_nonneg (x / 65536 / 256)
      have b2 : blen (x / 65536 / 256) ≤ 8 := blen_le (by decide) (by rw [q8]; omega)
      rw [w64 (x := blen _) (by omega) (by omega), w64 (x := s + 16) (by omega) (by omega), w64 (x := s + 16 + 8) (by omega) (by omega), w64 (by omega) (by omega), e1, e2]
      rw [show s + 16 + 8 + blen (x / 65536 / 256) = s + (16 + (8 + blen (x / 65536 / 256))) from by omega]
      exact Ev.now _
    · refine Ev.neg c2 (Ev.pos (by omega) (Ev.pos (by omega) ?_))
      rw [blen_tab_eq (by omega) (by omega), show x / 65536 % 256 = x / 65536 from by omega]
      have b1 := blen_nonneg (x / 65536)
      have b2 : blen (x / 65536) ≤ 8 := blen_le (by decide) (by rw [q8]; omega)
      rw [w64 (x := blen _) (by omega) (by omega), w64 (x := s + 16) (by omega) (by omega), w64 (by omega) (by omega), e1]
      rw [show s + 16 + blen (x / 65536) = s + (16 + blen (x / 65536)) from by omega]
      exact Ev.now _
  · refine Ev.neg c1 ?_
    by_cases c2 : x ≥ 256
    · refine Ev.pos c2 (Ev.pos (by omega) (Ev.pos (by omega) ?_))
      have e2 : blen x = 8 + blen (x / 256) := by rw [← q8]; exact blen_shift (by decide) (by rw [q8]; exact c2)
      rw [blen_tab_eq (by omega) (by omega), show x / 256 % 256 = x / 256 from by omega]
      have b1 := blen_nonneg (x / 256)
      have b2 : blen (x / 256) ≤ 8 := blen_le (by decide) (by rw [q8]; omega)
      rw [w64 (x := blen _) (by omega) (by omega), w64 (x := s + 8) (by omega) (by omega), w64 (by omega) (by omega), e2]
      rw [show s + 8 + blen (x / 256) = s + (8 + blen (x / 256)) from by omega]
      exact Ev.now _
    · refine Ev.neg c2 (Ev.pos (by omega) (Ev.pos (by omega) ?_))
      rw [blen_tab_eq (by omega) (by omega), show x % 256 = x from by omega]
      have b1 := blen_nonneg x
      have b2 : blen x ≤ 8 := blen_le (by decide) (by rw [q8]; omega)
      rw [w64 (x := blen _) (by omega) (by omega), w64 (by omega) (by omega)]
      exact Ev.now _
theorem bits_Len64_ev {x : Int} (h : U x) : Ev (fun k => bits_Len64.f k x) (blen x) := by
  obtain ⟨h0, h1⟩ := h
  unfold bits_Len64.f
  have q32 : p2 32 = 4294967296 := by decide
  by_cases c1 : x ≥ 4294967296
  · have e1 : blen x = 32 + blen (x / 4294967296) := by rw [← q32]; exact blen_shift (by decide) (by rw [q32]; exact c1)
    rw [e1]
    exact Ev.pos c1 (bits_Len64_j0 (by omega) (by omega) (by decide) (by decide))
  · have := bits_Len64_j0 (x := x) (s := 0) h0 (by omega) (by decide) (by decide)
    rw [Int.zero_add] at this
    exact Ev.neg c1 this
theorem wide_Len_ev {h l : Int} (hh : U h) (hl : U l) : Ev (fun k => wide_Wide_Len.f k h l) (blen (wv h l)) := by
  unfold wide_Wide_Len.f
  have hx := hh
  obtain ⟨x0, x1⟩ := hh
  have hy := hl
  obtain ⟨y0, y1⟩ := hl
  by_cases c : h = 0
  · subst c
    rw [show wv 0 l = l from by unfold wv; omega]
    exact Ev.pos rfl (Ev.bind (bits_Len64_ev hy) (Ev.now _))
  · refine Ev.neg c (Ev.bind (bits_Len64_ev hx) ?_)
    have e1 : blen (wv h l) = 64 + blen (wv h l / 18446744073709551616) := by
      rw [← p2_64]; exact blen_shift (by decide) (by rw [p2_64]; unfold wv; omega)
    have e2 : wv h l / 18446744073709551616 = h := by unfold wv; omega
    have b1 := blen_nonneg h
    have b2 : blen h ≤ 64 := blen_le (by decide) (by rw [p2_64]; omega)
    rw [e1, e2, w64 (by omega) (by omega)]
    exact Ev.now _
theorem blen_wv_le {h l : Int} (hh : U h) (hl : U l) : blen (wv h l) ≤ 128 := blen_le (by decide) (by rw [p2_128]; exact (wv_range hh hl).2)
theorem blen_mono {x y : Int} (h : x ≤ y) : blen x ≤ blen y := by
  by_cases hy : 0 < y
  · exact blen_le (blen_nonneg y) (by have := (blen_pos hy).2.2; omega)
  · unfold blen; rw [if_pos (by omega), if_pos (by omega)]; exact Int.le_refl _
end Gim
