/- What soft.Div answers: the quotient of two numbers, rounded. -/
import Derived.Test.YtnjobojkoaknpaaTNan
import Derived.Test.YtnjobojkoaknpaaFx7
import Derived.Test.YtnjobojkoaknpaaFx8
namespace Gim
open Go Go.RowKit Go.Proofs.YtnjobojkoaknpaaW.PrintWords Go.Proofs.YtnjobojkoaknpaaW.PrintLast Go.Proofs.YtnjobojkoaknpaaW.PrintMore Go.Proofs.Ytnjobojkoaknpaa.F
set_option linter.unusedVariables false


/-- What a divisor of 64 bits, its highest one set, is made of. -/
structure Norm (y y1 y0 : Int) : Prop where
  eq : y = y1 * 4294967296 + y0
  l1 : 2147483648 ≤ y1
  h1 : y1 < 4294967296
  l0 : 0 ≤ y0
  h0 : y0 < 4294967296

/-- A digit that is guessed is right, or too great. -/
structure Guess (y y1 y0 u d q rh : Int) : Prop where
  u0 : 0 ≤ u
  u1 : u < y
  d0 : 0 ≤ d
  d1 : d < 4294967296
  rh0 : 0 ≤ rh
  rhe : rh = u - q * y1
  q0 : (u * 4294967296 + d) / y ≤ q
  q1 : q ≤ 4294967297

theorem quo_lt {y u d : Int} (hy : 0 < y) (u0 : 0 ≤ u) (u1 : u < y) (d0 : 0 ≤ d) (d1 : d < 4294967296) : 0 ≤ (u * 4294967296 + d) / y ∧ (u * 4294967296 + d) / y < 4294967296 := by
  refine ⟨Int.ediv_nonneg (by omega) (by omega), Int.ediv_lt_of_lt_mul hy (by omega)⟩
theorem guess_first {y y1 y0 u d : Int} (n : Norm y y1 y0) (u0 : 0 ≤ u) (u1 : u < y) (d0 : 0 ≤ d) (d1 : d < 4294967296) : Guess y y1 y0 u d (u / y1) (u - u / y1 * y1) := by
  obtain ⟨e, l1, h1, l0, h0⟩ := n
  have hy1 : 0 < y1 := by omega
  have hy : 0 < y := by omega
  have m := Int.mul_ediv_add_emod u y1
  have r0 := Int.emod_nonneg u (Int.ne_of_gt hy1)
  have c : u / y1 * y1 = y1 * (u / y1) := Int.mul_comm _ _
  refine ⟨u0, u1, d0, d1, by omega, rfl, ?_, ?_⟩
  · -- (u 2^32 + d)/y ≤ (u 2^32 + d)/(y1 2^32) = u/y1
    have h2 : 0 < y1 * 4294967296 := by omega
    have h3 : (u * 4294967296 + d) / (y1 * 4294967296) = u / y1 := by
      rw [Int.mul_comm y1, ← Int.ediv_ediv_of_nonneg (by decide)]
      congr 1
      omega
    rw [← h3]
    have m2 := Int.mul_ediv_add_emod (u * 4294967296 + d) y
    have r2 := Int.emod_nonneg (u * 4294967296 + d) (Int.ne_of_gt hy)
    apply Int.le_ediv_of_mul_le h2
    have q0 := (quo_lt hy u0 u1 d0 d1).1
    have : (u * 4294967296 + d) / y * (y1 * 4294967296) ≤ (u * 4294967296 + d) / y * y := Int.mul_le_mul_of_nonneg_left (by omega) q0
    have c2 : (u * 4294967296 + d) / y * y = y * ((u * 4294967296 + d) / y) := Int.mul_comm _ _
    omega
  · have : u / y1 < 4294967298 := by apply Int.ediv_lt_of_lt_mul hy1; omega
    omega
theorem prod32 {q y0 : Int} (q0 : 0 ≤ q) (q1 : q ≤ 4294967297) (l0 : 0 ≤ y0) (h0 : y0 < 4294967296) : 0 ≤ q * y0 ∧ q * y0 ≤ 18446744073709551615 := by
  have := mul_bound q0 l0 q1 (show y0 ≤ 4294967295 by omega)
  omega
/-- The test: is the digit too great? -/
theorem guess_test {y y1 y0 u d q rh : Int} (n : Norm y y1 y0) (g : Guess y y1 y0 u d q rh) (hr : rh < 4294967296) :
    (q ≥ 4294967296 ∨ q * y0 > 4294967296 * rh + d) ↔ (u * 4294967296 + d) / y < q := by
  obtain ⟨e, l1, h1, l0, h0⟩ := n
  have hy : 0 < y := by omega
  obtain ⟨q2, q3⟩ := quo_lt hy g.u0 g.u1 g.d0 g.d1
  have hq := g.q0
  have e1 : q * y = q * y1 * 4294967296 + q * y0 := by rw [e]; grind
  have e2 : q * y1 = u - rh := by have := g.rhe; omega
  have key : q * y0 > 4294967296 * rh + d ↔ (u * 4294967296 + d) / y < q := by
    rw [Int.ediv_lt_iff_lt_mul hy, e1, e2]
    constructor <;> intro h <;> omega
  constructor
  · rintro (h | h)
    · omega
    · exact key.mp h
  · intro h
    exact .inr (key.mpr h)
theorem guess_next {y y1 y0 u d q rh : Int} (n : Norm y y1 y0) (g : Guess y y1 y0 u d q rh) (h : (u * 4294967296 + d) / y < q) : Guess y y1 y0 u d (q - 1) (rh + y1) := by
  have := n.l1
  have e : (q - 1) * y1 = q * y1 - y1 := by grind
  exact ⟨g.u0, g.u1, g.d0, g.d1, by have := g.rh0; omega, by have := g.rhe; omega, by omega, by have := g.q1; omega⟩
/-- Where the rest is great, the digit is right. -/
theorem guess_done {y y1 y0 u d q rh : Int} (n : Norm y y1 y0) (g : Guess y y1 y0 u d q rh) (hr : 4294967296 ≤ rh) (hq : q ≤ 4294967296) : q = (u * 4294967296 + d) / y := by
  obtain ⟨e, l1, h1, l0, h0⟩ := n
  have hy : 0 < y := by omega
  obtain ⟨q2, q3⟩ := quo_lt hy g.u0 g.u1 g.d0 g.d1
  have hq0 := g.q0
  have e1 : q * y = q * y1 * 4294967296 + q * y0 := by rw [e]; grind
  have e2 : q * y1 = u - rh := by have := g.rhe; omega
  have p := mul_bound (show 0 ≤ q by omega) l0 hq (show y0 ≤ 4294967295 by omega)
  have : q ≤ (u * 4294967296 + d) / y := by
    apply Int.le_ediv_of_mul_le hy
    rw [e1, e2]
    have := g.d0
    omega
  omega

theorem low_digit {y y1 y0 x9 x10 un0 q1 : Int} (n : Norm y y1 y0) {u d : Int} (hd0 : 0 ≤ un0) (hd1 : un0 < 4294967296) (hq0 : 0 ≤ q1) (hq1 : q1 < 4294967296) (u0 : 0 ≤ u) (u1 : u < y) (hy : y < 18446744073709551616) (k : Nat) :
    ∀ q rh, Guess y y1 y0 u un0 q rh → rh < 4294967296 → (q - (u * 4294967296 + un0) / y).toNat ≤ k →
      Ev (fun f => bits_Div64.l1 f y 0 y1 y0 un0 q1 rh u q) (q1 * 4294967296 + (u * 4294967296 + un0) / y, (u * 4294967296 + un0) % y) := by
  have hy0 : 0 < y := by have := n.eq; have := n.l1; have := n.l0; omega
  obtain ⟨t0, t1⟩ := quo_lt hy0 u0 u1 hd0 hd1
  have md := Int.mul_ediv_add_emod (u * 4294967296 + un0) y
  have r0 := Int.emod_nonneg (u * 4294967296 + un0) (Int.ne_of_gt hy0)
  have r1 := Int.emod_lt_of_pos (u * 4294967296 + un0) hy0
  -- the end
  have fin : ∀ q : Int, q = (u * 4294967296 + un0) / y → IntKind.u64.wrap (q1 * 4294967296 + q) = q1 * 4294967296 + (u * 4294967296 + un0) / y ∧
      shr .u64 (IntKind.u64.wrap (IntKind.u64.wrap (IntKind.u64.wrap (u * 4294967296) + un0) - IntKind.u64.wrap (q * y))) 0 = (u * 4294967296 + un0) % y := by
    intro q hq
    refine ⟨by rw [hq]; exact wu64 (by omega) (by omega), ?_⟩
    rw [shr_u64 (by decide) (by decide), p2_0, Int.ediv_one, hq, wu64_mod, wu64_mod, wu64_mod, wu64_mod]
    have c : (u * 4294967296 + un0) / y * y = y * ((u * 4294967296 + un0) / y) := Int.mul_comm _ _
    rw [c]
    generalize y * ((u * 4294967296 + un0) / y) = Z at *
    generalize (u * 4294967296 + un0) % y = R at *
    omega
  induction k with
  | zero =>
    intro q rh g hr hk
    have hq : q = (u * 4294967296 + un0) / y := by have := g.q0; omega
    obtain ⟨f1, f2⟩ := fin q hq
    have ht := guess_test n g hr
    have hno : ¬ (q ≥ 4294967296 ∨ q * y0 > 4294967296 * rh + un0) := fun h => by have := ht.mp h; omega
    refine Ev.succ ?_
    simp only [bits_Div64.l1]
    refine Ev.neg (fun h => hno (.inl h)) (Ev.succ ?_)
    simp only [bits_Div64.j4]
    have p := prod32 (show 0 ≤ q by omega) g.q1 n.l0 n.h0
    have := g.rh0
    rw [wu64 (x := q * y0) (by omega) (by omega), wu64 (x := 4294967296 * rh) (by omega) (by omega), wu64 (x := 4294967296 * rh + un0) (by omega) (by omega),
      decide_eq_false (fun h => hno (.inr h))]
    refine Ev.neg (by decide) (Ev.pos (by decide) ?_)
    rw [wu64 (x := q1 * 4294967296) (by omega) (by omega), f1, f2]
    exact Ev.now _
  | succ k ih =>
    intro q rh g hr hk
    by_cases hq : q = (u * 4294967296 + un0) / y
    · exact ih q rh g hr (by omega)
    · have hlt : (u * 4294967296 + un0) / y < q := by have := g.q0; omega
      have ht := (guess_test n g hr).mpr hlt
      have g' := guess_next n g hlt
      have rh0 := g.rh0
      have l1 := n.l1
      have h1 := n.h1
      have gq1 := g.q1
      -- what the test answers leads on
      have on : Ev (fun f => bits_Div64.j4 f y 0 y1 y0 un0 q1 rh u q true) (q1 * 4294967296 + (u * 4294967296 + un0) / y, (u * 4294967296 + un0) % y) := by
        refine Ev.succ ?_
        simp only [bits_Div64.j4]
        rw [wu64 (x := rh + y1) (by omega) (by omega), wu64 (x := q - 1) (by omega) (by omega)]
        refine Ev.pos trivial ?_
        by_cases hb : rh + y1 ≥ 4294967296
        · have hq' := guess_done n g' hb (by omega)
          obtain ⟨f1, f2⟩ := fin (q - 1) hq'
          refine Ev.pos hb (Ev.pos (by decide) ?_)
          rw [wu64 (x := q1 * 4294967296) (by omega) (by omega), f1, f2]
          exact Ev.now _
        · exact Ev.neg hb (ih (q - 1) (rh + y1) g' (by omega) (by omega))
      refine Ev.succ ?_
      simp only [bits_Div64.l1]
      by_cases hbig : q ≥ 4294967296
      · exact Ev.pos hbig on
      · refine Ev.neg hbig ?_
        have p := prod32 (show 0 ≤ q by omega) g.q1 n.l0 n.h0
        rw [wu64 (x := q * y0) (by omega) (by omega), wu64 (x := 4294967296 * rh) (by omega) (by omega), wu64 (x := 4294967296 * rh + un0) (by omega) (by omega),
          decide_eq_true (by rcases ht with h | h; exact absurd h hbig; exact h)]
        exact on

theorem high_digit {y y1 y0 u un1 un0 : Int} (n : Norm y y1 y0) (hy : y < 18446744073709551616) (u0 : 0 ≤ u) (u1 : u < y) (d0 : 0 ≤ un1) (d1 : un1 < 4294967296) (e0 : 0 ≤ un0) (e1 : un0 < 4294967296) (k : Nat) :
    ∀ q rh, Guess y y1 y0 u un1 q rh → rh < 4294967296 → (q - (u * 4294967296 + un1) / y).toNat ≤ k →
      Ev (fun f => bits_Div64.l0 f y 0 y1 y0 u un1 un0 q rh) ((u * 4294967296 + un1) / y * 4294967296 + ((u * 4294967296 + un1) % y * 4294967296 + un0) / y, ((u * 4294967296 + un1) % y * 4294967296 + un0) % y) := by
  have hy0 : 0 < y := by have := n.eq; have := n.l1; have := n.l0; omega
  obtain ⟨t0, t1⟩ := quo_lt hy0 u0 u1 d0 d1
  have md := Int.mul_ediv_add_emod (u * 4294967296 + un1) y
  have r0 := Int.emod_nonneg (u * 4294967296 + un1) (Int.ne_of_gt hy0)
  have r1 := Int.emod_lt_of_pos (u * 4294967296 + un1) hy0
  have l1 := n.l1
  have h1 := n.h1
  have hy1 : 0 < y1 := by omega
  -- on to the second digit
  have fin : ∀ q : Int, q = (u * 4294967296 + un1) / y → Ev (fun f => bits_Div64.j2 f y 0 y1 y0 u un1 un0 q) ((u * 4294967296 + un1) / y * 4294967296 + ((u * 4294967296 + un1) % y * 4294967296 + un0) / y, ((u * 4294967296 + un1) % y * 4294967296 + un0) % y) := by
    intro q hq
    have eu : IntKind.u64.wrap (IntKind.u64.wrap (IntKind.u64.wrap (u * 4294967296) + un1) - IntKind.u64.wrap (q * y)) = (u * 4294967296 + un1) % y := by
      rw [hq, wu64_mod, wu64_mod, wu64_mod, wu64_mod]
      have c : (u * 4294967296 + un1) / y * y = y * ((u * 4294967296 + un1) / y) := Int.mul_comm _ _
      rw [c]
      generalize y * ((u * 4294967296 + un1) / y) = Z at *
      generalize (u * 4294967296 + un1) % y = R at *
      omega
    refine Ev.succ ?_
    simp only [bits_Div64.j2]
    refine Ev.neg (by omega) ?_
    rw [eu, Int.tdiv_eq_ediv_of_nonneg r0]
    have g := guess_first (u := (u * 4294967296 + un1) % y) (d := un0) n r0 r1 e0 e1
    have gq := g.q1
    have gr := g.rh0
    have m := Int.mul_ediv_add_emod ((u * 4294967296 + un1) % y) y1
    have s0 := Int.emod_nonneg ((u * 4294967296 + un1) % y) (Int.ne_of_gt hy1)
    have s1 := Int.emod_lt_of_pos ((u * 4294967296 + un1) % y) hy1
    have c : (u * 4294967296 + un1) % y / y1 * y1 = y1 * ((u * 4294967296 + un1) % y / y1) := Int.mul_comm _ _
    have qn : 0 ≤ (u * 4294967296 + un1) % y / y1 := Int.ediv_nonneg r0 (by omega)
    have qy := Int.mul_nonneg qn (show 0 ≤ y1 by omega)
    rw [wu64 (x := (u * 4294967296 + un1) % y / y1) qn (by omega), wu64 (x := (u * 4294967296 + un1) % y / y1 * y1) (by omega) (by omega), wu64 (x := (u * 4294967296 + un1) % y - (u * 4294967296 + un1) % y / y1 * y1) (by omega) (by omega)]
    have := low_digit (x9 := 0) (x10 := 0) (q1 := q) n (d := 0) e0 e1 (by omega) (by omega) r0 r1 hy _ _ _ g (by omega) (Nat.le_refl _)
    rw [hq] at this ⊢
    exact this
  induction k with
  | zero =>
    intro q rh g hr hk
    have hq : q = (u * 4294967296 + un1) / y := by have := g.q0; omega
    have ht := guess_test n g hr
    have hno : ¬ (q ≥ 4294967296 ∨ q * y0 > 4294967296 * rh + un1) := fun h => by have := ht.mp h; omega
    refine Ev.succ ?_
    simp only [bits_Div64.l0]
    refine Ev.neg (fun h => hno (.inl h)) (Ev.succ ?_)
    simp only [bits_Div64.j1]
    have p := prod32 (show 0 ≤ q by omega) g.q1 n.l0 n.h0
    have := g.rh0
    rw [wu64 (x := q * y0) (by omega) (by omega), wu64 (x := 4294967296 * rh) (by omega) (by omega), wu64 (x := 4294967296 * rh + un1) (by omega) (by omega),
      decide_eq_false (fun h => hno (.inr h))]
    exact Ev.neg (by decide) (fin q hq)
  | succ k ih =>
    intro q rh g hr hk
    by_cases hq : q = (u * 4294967296 + un1) / y
    · exact ih q rh g hr (by omega)
    · have hlt : (u * 4294967296 + un1) / y < q := by have := g.q0; omega
      have ht := (guess_test n g hr).mpr hlt
      have g' := guess_next n g hlt
      have rh0 := g.rh0
      have gq1 := g.q1
      have on : Ev (fun f => bits_Div64.j1 f y 0 y1 y0 u un1 un0 q rh true) ((u * 4294967296 + un1) / y * 4294967296 + ((u * 4294967296 + un1) % y * 4294967296 + un0) / y, ((u * 4294967296 + un1) % y * 4294967296 + un0) % y) := by
        refine Ev.succ ?_
        simp only [bits_Div64.j1]
        rw [wu64 (x := rh + y1) (by omega) (by omega), wu64 (x := q - 1) (by omega) (by omega)]
        refine Ev.pos trivial ?_
        by_cases hb : rh + y1 ≥ 4294967296
        · exact Ev.pos hb (fin (q - 1) (guess_done n g' hb (by omega)))
        · exact Ev.neg hb (ih (q - 1) (rh + y1) g' (by omega) (by omega))
      refine Ev.succ ?_
      simp only [bits_Div64.l0]
      by_cases hbig : q ≥ 4294967296
      · exact Ev.pos hbig on
      · refine Ev.neg hbig ?_
        have p := prod32 (show 0 ≤ q by omega) g.q1 n.l0 n.h0
        rw [wu64 (x := q * y0) (by omega) (by omega), wu64 (x := 4294967296 * rh) (by omega) (by omega), wu64 (x := 4294967296 * rh + un1) (by omega) (by omega),
          decide_eq_true (by rcases ht with h | h; exact absurd h hbig; exact h)]
        exact on

/-- A quotient of 128 bits by 64, the divisor's highest bit set, nothing in the low word. -/
theorem bits_Div64_ev {u y : Int} (u0 : 0 < u) (u1 : u < y) (y0 : 9223372036854775808 ≤ y) (y1 : y < 18446744073709551616) :
    Ev (fun k => bits_Div64.f k u 0 y) (u * 18446744073709551616 / y, u * 18446744073709551616 % y) := by
  have hy0 : 0 < y := by omega
  have hU : U y := ⟨by omega, y1⟩
  have bl : blen y = 64 := blen_unique (by decide) (by rw [show p2 (64 - 1) = 9223372036854775808 from by decide]; exact y0) (by rw [p2_64]; exact y1)
  have lz : Ev (fun k => bits_LeadingZeros64.f k y) 0 := by
    unfold bits_LeadingZeros64.f
    refine Ev.bind (bits_Len64_ev hU) ?_
    rw [bl, w64 (x := 64 - 64) (by decide) (by decide)]
    exact Ev.now _
  have n : Norm y (y / 4294967296) (y % 4294967296) := ⟨by omega, by omega, by omega, by omega, by omega⟩
  have g := guess_first (u := u) (d := 0) n (by omega) u1 (by decide) (by decide)
  have hq0 : 0 < y / 4294967296 := by omega
  have m := Int.mul_ediv_add_emod u (y / 4294967296)
  have s0 := Int.emod_nonneg u (Int.ne_of_gt hq0)
  have s1 := Int.emod_lt_of_pos u hq0
  have c : u / (y / 4294967296) * (y / 4294967296) = y / 4294967296 * (u / (y / 4294967296)) := Int.mul_comm _ _
  have qn : 0 ≤ u / (y / 4294967296) := Int.ediv_nonneg (by omega) (by omega)
  have qy := Int.mul_nonneg qn (show 0 ≤ y / 4294967296 by omega)
  have gq := g.q1
  have hd := high_digit (un1 := 0) (un0 := 0) n y1 (by omega) u1 (by decide) (by decide) (by decide) (by decide) _ _ _ g (by omega) (Nat.le_refl _)
  -- the two digits are the quotient
  have e : u * 18446744073709551616 / y = (u * 4294967296 + 0) / y * 4294967296 + ((u * 4294967296 + 0) % y * 4294967296 + 0) / y ∧ u * 18446744073709551616 % y = ((u * 4294967296 + 0) % y * 4294967296 + 0) % y := by
    rw [Int.add_zero, Int.add_zero]
    have md := Int.mul_ediv_add_emod (u * 4294967296) y
    have e1 : u * 18446744073709551616 = u * 4294967296 % y * 4294967296 + y * (u * 4294967296 / y * 4294967296) := by
      generalize u * 4294967296 % y = R at *
      generalize u * 4294967296 / y = Q at *
      have : y * (Q * 4294967296) = y * Q * 4294967296 := by grind
      omega
    rw [e1]
    constructor
    · rw [Int.add_mul_ediv_left _ _ (Int.ne_of_gt hy0)]; omega
    · rw [Int.add_mul_emod_self_left]
  rw [e.1, e.2]
  unfold bits_Div64.f
  refine Ev.neg (by omega) (Ev.neg (by omega) (Ev.neg (by omega) (Ev.bind lz ?_)))
  rw [show IntKind.u64.wrap 0 = 0 from by decide, show IntKind.u64.wrap (64 - 0) = 64 from by decide]
  have ey : shl .u64 y 0 = y := by rw [shl_u64 (by decide) (by decide), p2_0]; omega
  have eu : shl .u64 u 0 = u := by rw [shl_u64 (by decide) (by decide), p2_0]; omega
  have e0 : shl .u64 0 0 = 0 := by decide
  have es : shr .u64 0 64 = 0 := by decide
  have eo : bits .or .u64 u 0 = u := by
    have := u64_or 0 (x := u) (y := 0) (by omega) (by simp) (by omega) (by decide) (by decide) (by decide)
    rw [this, Int.add_zero]
  rw [ey, eu, e0, es, eo, u64_and32 (by omega) y1, show bits .and .u64 0 4294967295 = 0 from by decide]
  refine Ev.pos (by decide) (Ev.pos (by decide) (Ev.neg (by omega) ?_))
  rw [Int.tdiv_eq_ediv_of_nonneg (by omega), wu64 (x := u / (y / 4294967296)) qn (by omega), wu64 (x := u / (y / 4294967296) * (y / 4294967296)) (by omega) (by omega), wu64 (x := u - u / (y / 4294967296) * (y / 4294967296)) (by omega) (by omega)]
  exact hd
theorem wide_Div_ev {u y : Int} (u0 : 0 < u) (u1 : u < y) (y0 : 9223372036854775808 ≤ y) (y1 : y < 18446744073709551616) :
    Ev (fun k => wide_Wide_Div.f k u 0 y) (u * 18446744073709551616 / y, u * 18446744073709551616 % y, true) := by
  unfold wide_Wide_Div.f
  exact Ev.neg (by omega) (Ev.bind (bits_Div64_ev u0 u1 y0 y1) (Ev.now _))

theorem div_nan {a b : Int} (ha : U a) (hb : U b) (h : (isNan a || isNan b) = true) : Ev (fun k => soft_Div.f k a b) (QNAN, nanF a b) := by
  unfold soft_Div.f
  refine Ev.bind (soft_nan2 ha hb) ?_
  exact Ev.pos h (Ev.now _)
/-- Infinity by infinity, or zero by zero? -/
def divBad (a b : Int) : Bool := (decide (mag a = INF) && decide (mag b = INF)) || (decide (mag a = 0) && decide (mag b = 0))
theorem div_kinds {a b : Int} (ha : U a) (hb : U b) (h : (isNan a || isNan b) = false) {r : Int × Int}
    (hk : Ev (fun k => soft_Div.j0 k a b (neg a != neg b) (kindOf (mag a)) (kindOf (mag b)) (divBad a b)) r) : Ev (fun k => soft_Div.f k a b) r := by
  unfold soft_Div.f
  refine Ev.bind (soft_nan2 ha hb) (Ev.neg (by simp only [h]; decide) (Ev.call (word_Neg_eq ha) (Ev.call (word_Neg_eq hb) (Ev.bind (word_Kind_ev ha) (Ev.bind (word_Kind_ev hb) ?_)))))
  rw [kind_mag, kind_mag, neg_def, neg_def]
  have kz : ∀ c : Int, (kindOf (mag c) == 1) = decide (mag c = 0) := fun c => by
    rw [Bool.eq_iff_iff]; simp only [beq_iff_eq, decide_eq_true_eq]; exact kind_zero
  have I0 : (INF : Int) ≠ 0 := by decide
  rw [kz]
  by_cases c1 : kindOf (mag a) = 4
  · have m1 := kind_inf.mp c1
    have n1 : ¬ kindOf (mag a) = 1 := by rw [c1]; decide
    by_cases c2 : kindOf (mag b) = 4
    · have m2 := kind_inf.mp c2
      have e : divBad a b = true := by unfold divBad; rw [m1, m2]; decide
      rw [e] at hk
      exact Ev.pos c1 (Ev.pos c2 hk)
    · have m2 : mag b ≠ INF := fun h => c2 (kind_inf.mpr h)
      have e : divBad a b = false := by unfold divBad; rw [m1]; simp [m2, I0]
      rw [e] at hk
      exact Ev.pos c1 (Ev.neg c2 (Ev.neg n1 hk))
  · have m1 : mag a ≠ INF := fun h => c1 (kind_inf.mpr h)
    by_cases c2 : kindOf (mag a) = 1
    · have m2 := kind_zero.mp c2
      have e : divBad a b = decide (mag b = 0) := by unfold divBad; rw [m2]; simp [Ne.symm I0]
      rw [e] at hk
      exact Ev.neg c1 (Ev.pos c2 hk)
    · have m2 : mag a ≠ 0 := fun h => c2 (kind_zero.mpr h)
      have e : divBad a b = false := by unfold divBad; simp [m1, m2]
      rw [e] at hk
      exact Ev.neg c1 (Ev.neg c2 hk)
theorem div_bad {a b : Int} (ha : U a) (hb : U b) (h : divBad a b = true) : Ev (fun k => soft_Div.f k a b) (QNAN, 16) := by
  refine div_kinds ha hb ?_ ?_
  · unfold divBad at h
    have h0 : isNan a = false ∧ isNan b = false := by
      unfold isNan INF at *
      simp at h ⊢
      omega
    rw [h0.1, h0.2]; rfl
  · refine Ev.succ ?_
    simp only [soft_Div.j0]
    exact Ev.pos h (Ev.now _)
theorem div_infa {a b : Int} (ha : U a) (hb : U b) (h1 : mag a = INF) (h2 : fin b) : Ev (fun k => soft_Div.f k a b) (signed (neg a != neg b) INF, 0) := by
  refine div_kinds ha hb (by rw [fin_nan h2]; unfold isNan; rw [h1]; decide) (Ev.succ ?_)
  simp only [soft_Div.j0]
  have hb0 : divBad a b = false := by
    have : mag b ≠ INF := by unfold fin at h2; omega
    unfold divBad; rw [h1]; simp [this]; intro h; exact absurd h (by decide)
  exact Ev.neg (by rw [hb0]; decide) (Ev.pos (kind_inf.mpr h1) (Ev.call (make_inf _) (Ev.now _)))
theorem div_infb {a b : Int} (ha : U a) (hb : U b) (h1 : fin a) (h2 : mag b = INF) : Ev (fun k => soft_Div.f k a b) (signed (neg a != neg b) 0, 0) := by
  have h3 : mag a ≠ INF := by unfold fin at h1; omega
  refine div_kinds ha hb (by rw [fin_nan h1]; unfold isNan; rw [h2]; decide) (Ev.succ ?_)
  simp only [soft_Div.j0]
  have hb0 : divBad a b = false := by
    unfold divBad; rw [h2]; simp [h3]; intro _ h; exact absurd h (by decide)
  refine Ev.neg (by rw [hb0]; decide) (Ev.neg (fun h => h3 (kind_inf.mp h)) (Ev.pos (kind_inf.mpr h2) (Ev.succ ?_)))
  simp only [soft_Div.j1]
  exact Ev.pos trivial (Ev.call (make_zero _) (Ev.now _))
theorem div_fin_start {a b : Int} (ha : U a) (hb : U b) (fa : fin a) (fb : fin b) (h0 : ¬ (mag a = 0 ∧ mag b = 0)) {r : Int × Int}
    (h : Ev (fun k => soft_Div.j1 k a b (neg a != neg b) (kindOf (mag b)) (decide (mag a = 0))) r) : Ev (fun k => soft_Div.f k a b) r := by
  have h3 : mag a ≠ INF := by unfold fin at fa; omega
  have h4 : mag b ≠ INF := by unfold fin at fb; omega
  have kz : (kindOf (mag a) == 1) = decide (mag a = 0) := by
    rw [Bool.eq_iff_iff]; simp only [beq_iff_eq, decide_eq_true_eq]; exact kind_zero
  refine div_kinds ha hb (by rw [fin_nan fa, fin_nan fb]; rfl) (Ev.succ ?_)
  simp only [soft_Div.j0]
  have hb0 : divBad a b = false := by
    unfold divBad; simp [h3]; intro h; exact fun h' => h0 ⟨h, h'⟩
  refine Ev.neg (by rw [hb0]; decide) (Ev.neg (fun h => h3 (kind_inf.mp h)) (Ev.neg (fun h => h4 (kind_inf.mp h)) ?_))
  rw [kz]
  exact h
/-- A number by zero. -/
theorem div_zero {a b : Int} (ha : U a) (hb : U b) (fa : fin a) (za : mag a ≠ 0) (zb : mag b = 0) : Ev (fun k => soft_Div.f k a b) (signed (neg a != neg b) INF, 8) := by
  refine div_fin_start ha hb fa (by unfold fin; rw [zb]; decide) (fun h => za h.1) (Ev.succ ?_)
  simp only [soft_Div.j1]
  exact Ev.neg (by simp [za]) (Ev.pos (kind_zero.mpr zb) (Ev.call (make_inf _) (Ev.now _)))

/-- DIV: of two numbers, the second of which isn't zero. -/
theorem div_fin {a b : Int} (ha : U a) (hb : U b) (fa : fin a) (fb : fin b) (zb : mag b ≠ 0) : ∃ r f, Ev (fun k => soft_Div.f k a b) (r, f) ∧ Rd (val a / val b) (neg a != neg b) r f := by
  have vb0 : val b ≠ 0 := fun h => zb (val_zero_iff.mp h)
  by_cases za : mag a = 0
  · refine ⟨_, 0, div_fin_start ha hb fa fb (fun h => zb h.2) (Ev.succ ?_), ⟨fun _ => ⟨rfl, rfl⟩, fun h => absurd ?_ h⟩⟩
    · simp only [soft_Div.j1]
      exact Ev.pos (by simp [za]) (Ev.call (make_zero _) (Ev.now _))
    · rw [val_zero_iff.mpr za, Rat.div_def]; grind
  · have ma0 := (mag_lt (a := a)).1
    have mb0 := (mag_lt (a := b)).1
    have pa := word_Parts_ev ha (show 0 < mag a by omega) fa
    have pb := word_Parts_ev hb (show 0 < mag b by omega) fb
    obtain ⟨ea1, ea2⟩ := fin_expo fa
    obtain ⟨eb1, eb2⟩ := fin_expo fb
    have ma := mant_pos (m := mag a) (by omega)
    have ma' := mant_lt (m := mag a)
    have mb := mant_pos (m := mag b) (by omega)
    have mb' := mant_lt (m := mag b)
    have va : vm (mag a) = (mant (mag a) : Rat) * pw (expo (mag a)) := rfl
    have vb : vm (mag b) = (mant (mag b) : Rat) * pw (expo (mag b)) := rfl
    have emag : ∀ c : Int, c % 9223372036854775808 = mag c := fun _ => rfl
    rw [emag] at pa pb
    generalize hM : mant (mag a) = M at *
    generalize hN : mant (mag b) = N at *
    generalize hE : expo (mag a) = E at *
    generalize hG : expo (mag b) = G at *
    obtain ⟨bm1, bm2, bm3⟩ := blen_pos ma
    obtain ⟨bn1, bn2, bn3⟩ := blen_pos mb
    have hLm : blen M ≤ 53 := blen_le (by decide) (by rw [show p2 53 = 9007199254740992 from by decide]; omega)
    have hLn : blen N ≤ 53 := blen_le (by decide) (by rw [show p2 53 = 9007199254740992 from by decide]; omega)
    -- the shifted numbers
    have hs : 0 ≤ 53 - blen M + 10 := by omega
    have ht : 0 ≤ 64 - blen N := by omega
    have hP := p2_pos (53 - blen M + 10)
    have hQ := p2_pos (64 - blen N)
    have u0 : 4611686018427387904 ≤ M * p2 (53 - blen M + 10) := by
      have e : (4611686018427387904 : Int) = p2 (blen M - 1) * p2 (53 - blen M + 10) := by rw [← p2_add (by omega) hs, show blen M - 1 + (53 - blen M + 10) = 62 from by omega]; decide
      rw [e]; exact Int.mul_le_mul_of_nonneg_right bm2 (by omega)
    have u1 : M * p2 (53 - blen M + 10) < 9223372036854775808 := by
      have e : (9223372036854775808 : Int) = p2 (blen M) * p2 (53 - blen M + 10) := by rw [← p2_add (by omega) hs, show blen M + (53 - blen M + 10) = 63 from by omega]; decide
      rw [e]; exact Int.mul_lt_mul_of_pos_right bm3 hP
    have y0 : 9223372036854775808 ≤ N * p2 (64 - blen N) := by
      have e : (9223372036854775808 : Int) = p2 (blen N - 1) * p2 (64 - blen N) := by rw [← p2_add (by omega) ht, show blen N - 1 + (64 - blen N) = 63 from by omega]; decide
      rw [e]; exact Int.mul_le_mul_of_nonneg_right bn2 (by omega)
    have y1 : N * p2 (64 - blen N) < 18446744073709551616 := by
      have e : (18446744073709551616 : Int) = p2 (blen N) * p2 (64 - blen N) := by rw [← p2_add (by omega) ht, show blen N + (64 - blen N) = 64 from by omega]; decide
      rw [e]; exact Int.mul_lt_mul_of_pos_right bn3 hQ
    have dv := wide_Div_ev (u := M * p2 (53 - blen M + 10)) (y := N * p2 (64 - blen N)) (by omega) (by omega) y0 y1
    have es : shl .u64 M (53 - blen M + 10) = M * p2 (53 - blen M + 10) := by rw [shl_u64 hs (by omega)]; exact Int.emod_eq_of_lt (by omega) (by omega)
    have et : shl .u64 N (64 - blen N) = N * p2 (64 - blen N) := by rw [shl_u64 ht (by omega)]; exact Int.emod_eq_of_lt (by omega) (by omega)
    -- the quotient as a number
    have hx : rabs (val a / val b) * ((N * p2 (64 - blen N) : Int) : Rat) = ((M * p2 (53 - blen M + 10) * 18446744073709551616 : Int) : Rat) * pw (E - (53 - blen M) - 10 - 64 - (G - (64 - blen N))) := by
      have e1 : rabs (val a / val b) * vm (mag b) = vm (mag a) := by
        have p1 := vm_pos (m := mag a) (by omega)
        have p2 := vm_pos (m := mag b) (by omega)
        have e0 : val a / val b * val b = val a := by rw [Rat.div_mul_cancel vb0]
        have e3 : rabs (val a / val b) * rabs (val b) = rabs (val a) := by
          rw [← rabs_mul, e0]
        rw [rabs_val, rabs_val] at e3
        exact e3
      rw [va, vb] at e1
      have w1 : ((p2 (53 - blen M + 10) : Int) : Rat) = pw (53 - blen M + 10) := (pw_p2 hs).symm
      have w2 : ((p2 (64 - blen N) : Int) : Rat) = pw (64 - blen N) := (pw_p2 ht).symm
      have w3 : (18446744073709551616 : Rat) = pw 64 := by rw [pw_p2 (by decide), p2_64]; rfl
      push_cast
      rw [w1, w2, w3]
      -- multiply by 2^G
      have hG' := pw_pos G
      have k1 : (rabs (val a / val b) * ((N : Rat) * pw (64 - blen N))) * pw G = ((M : Rat) * pw (53 - blen M + 10) * pw 64 * pw (E - (53 - blen M) - 10 - 64 - (G - (64 - blen N)))) * pw G := by
        have k2 : pw (53 - blen M + 10) * pw 64 * pw (E - (53 - blen M) - 10 - 64 - (G - (64 - blen N))) * pw G = pw E * pw (64 - blen N) := by
          rw [← pw_add, ← pw_add, ← pw_add, ← pw_add]; congr 1; omega
        have k3 : (rabs (val a / val b) * ((N : Rat) * pw (64 - blen N))) * pw G = (rabs (val a / val b) * ((N : Rat) * pw G)) * pw (64 - blen N) := by grind
        rw [k3, e1]
        grind
      exact Rat.le_antisymm (Rat.le_of_mul_le_mul_right (by rw [k1]; exact Rat.le_refl) hG') (Rat.le_of_mul_le_mul_right (by rw [k1]; exact Rat.le_refl) hG')
    have hX0 : 0 < rabs (val a / val b) := by
      refine rabs_pos (fun h => ?_)
      have : val a = 0 := by
        have e0 : val a / val b * val b = val a := by rw [Rat.div_mul_cancel vb0]
        rw [← e0, h]; grind
      exact za (val_zero_iff.mp this)
    generalize hu : M * p2 (53 - blen M + 10) = u at *
    generalize hy : N * p2 (64 - blen N) = y at *
    generalize hD : E - (53 - blen M) - 10 - 64 - (G - (64 - blen N)) = D at *
    have yp : 0 < y := by omega
    have md := Int.mul_ediv_add_emod (u * 18446744073709551616) y
    have r0 := Int.emod_nonneg (u * 18446744073709551616) (Int.ne_of_gt yp)
    have r1 := Int.emod_lt_of_pos (u * 18446744073709551616) yp
    have q0 : 4611686018427387904 ≤ u * 18446744073709551616 / y := by apply Int.le_ediv_of_mul_le yp; omega
    have q1 : u * 18446744073709551616 / y < 18446744073709551616 := by apply Int.ediv_lt_of_lt_mul yp; omega
    generalize hq : u * 18446744073709551616 / y = q at *
    generalize hr : u * 18446744073709551616 % y = r at *
    have hyr : (0 : Rat) < (y : Rat) := by exact_mod_cast yp
    have hw : wv 0 q = q := by unfold wv; omega
    have hblen : 54 ≤ blen q := by
      obtain ⟨c1, c2, c3⟩ := blen_pos (x := q) (by omega)
      refine Decidable.byContradiction fun hc => ?_
      have := p2_le (show blen q ≤ 53 from by omega)
      have e53 : p2 53 = 9007199254740992 := by decide
      omega
    have bd : -100000 ≤ D ∧ D ≤ 100000 := by omega
    obtain ⟨m, f, er, rb⟩ := round_Round_ev (neg a != neg b) U_0 ⟨by omega, q1⟩ bd.1 bd.2 (r != 0) (x := rabs (val a / val b)) (by rw [hw]; omega)
      (by intro h
          have h : r = 0 := by simpa using h
          rw [hw]
          have e1 : u * 18446744073709551616 = q * y := by rw [Int.mul_comm q]; omega
          rw [e1] at hx
          have e2 : rabs (val a / val b) * (y : Rat) = ((q : Rat) * pw D) * (y : Rat) := by push_cast at hx; grind
          exact Rat.le_antisymm (Rat.le_of_mul_le_mul_right (by rw [e2]; exact Rat.le_refl) hyr) (Rat.le_of_mul_le_mul_right (by rw [e2]; exact Rat.le_refl) hyr))
      (by intro h
          have h : r ≠ 0 := by simpa using h
          rw [hw]
          refine ⟨⟨?_, ?_⟩, hblen⟩
          · refine Rat.lt_of_mul_lt_mul_right (c := (y : Rat)) ?_ (Rat.le_of_lt hyr)
            rw [hx]
            have h1 : (y * q : Int) * pw D < (u * 18446744073709551616 : Int) * pw D := mul_pw_lt.mpr (by omega)
            push_cast at h1 ⊢; grind
          · refine Rat.lt_of_mul_lt_mul_right (c := (y : Rat)) ?_ (Rat.le_of_lt hyr)
            rw [hx]
            have h2 : y * (q + 1) = y * q + y := by grind
            have h1 : (u * 18446744073709551616 : Int) * pw D < (y * (q + 1) : Int) * pw D := mul_pw_lt.mpr (by omega)
            push_cast at h1 ⊢; grind)
    refine ⟨signed (neg a != neg b) m, f, div_fin_start ha hb fa fb (fun h => za h.1) (Ev.succ ?_), ⟨fun h => ?_, fun _ => ⟨m, rb, ?_⟩⟩⟩
    · simp only [soft_Div.j1]
      refine Ev.neg (by simp [za]) (Ev.neg (fun h => zb (kind_zero.mp h)) (Ev.bind pa (Ev.bind pb ?_)))
      dsimp only
      have l1 : wv 0 M = M := by unfold wv; omega
      have l2 : wv 0 N = N := by unfold wv; omega
      have k1 := wide_Len_ev (h := 0) (l := M) U_0 ⟨by omega, by omega⟩
      have k2 := wide_Len_ev (h := 0) (l := N) U_0 ⟨by omega, by omega⟩
      rw [l1] at k1
      rw [l2] at k2
      refine Ev.bind k1 (Ev.bind k2 ?_)
      rw [w64 (x := 53 - blen M) (by omega) (by omega), w64 (x := 53 - blen M + 10) (by omega) (by omega), w64 (x := 64 - blen N) (by omega) (by omega), es, et,
        w64 (x := E - (53 - blen M)) (by omega) (by omega), w64 (x := E - (53 - blen M) - 10) (by omega) (by omega), w64 (x := E - (53 - blen M) - 10 - 64) (by omega) (by omega),
        w64 (x := G - (64 - blen N)) (by omega) (by omega), w64 (x := E - (53 - blen M) - 10 - 64 - (G - (64 - blen N))) (by omega) (by omega), hD]
      refine Ev.pos hs (Ev.pos ht (Ev.bind dv ?_))
      exact Ev.bind er (Ev.now _)
    · exfalso
      rw [h] at hX0
      exact absurd hX0 (by decide)
    · congr 1
      have p1 := vm_pos (m := mag a) (by omega)
      have p2 := vm_pos (m := mag b) (by omega)
      have e0 : val a / val b * val b = val a := by rw [Rat.div_mul_cancel vb0]
      have hne : val a / val b ≠ 0 := fun h => by rw [h] at hX0; exact absurd hX0 (by decide)
      have sa := val_eq a
      have sb := val_eq b
      generalize val a / val b = X at *
      generalize val a = A at *
      generalize val b = B at *
      by_cases c1 : X < 0
      · rw [decide_eq_true c1]
        cases h1 : neg a <;> cases h2 : neg b <;> rw [h1] at sa <;> rw [h2] at sb <;> simp at sa sb
        · have := Rat.mul_pos (show 0 < -X by grind) (show 0 < B by grind); grind
        · rfl
        · rfl
        · have := Rat.mul_pos (show 0 < -X by grind) (show 0 < -B by grind); grind
      · rw [decide_eq_false c1]
        have c2 : 0 < X := by grind
        cases h1 : neg a <;> cases h2 : neg b <;> rw [h1] at sa <;> rw [h2] at sb <;> simp at sa sb
        · rfl
        · have := Rat.mul_pos c2 (show 0 < -B by grind); grind
        · have := Rat.mul_pos c2 (show 0 < B by grind); grind
        · rfl
def DivR (a b r f : Int) : Prop :=
  if (isNan a || isNan b) = true then r = QNAN ∧ f = nanF a b
  else if divBad a b = true then r = QNAN ∧ f = 16
  else if mag a = INF then r = signed (neg a != neg b) INF ∧ f = 0
  else if mag b = INF then r = signed (neg a != neg b) 0 ∧ f = 0
  else if mag b = 0 then r = signed (neg a != neg b) INF ∧ f = 8
  else Rd (val a / val b) (neg a != neg b) r f

theorem div_ev {a b : Int} (ha : U a) (hb : U b) : ∃ r f, Ev (fun k => soft_Div.f k a b) (r, f) ∧ DivR a b r f := by
  unfold DivR
  by_cases h : (isNan a || isNan b) = true
  · exact ⟨_, _, div_nan ha hb h, by rw [if_pos h]; exact ⟨rfl, rfl⟩⟩
  · obtain ⟨h0, na, nb⟩ := nan_or h
    by_cases iz : divBad a b = true
    · exact ⟨_, _, div_bad ha hb iz, by rw [if_neg h, if_pos iz]; exact ⟨rfl, rfl⟩⟩
    · by_cases ia : mag a = INF
      · have ib : mag b ≠ INF := fun hh => iz (by unfold divBad; rw [ia, hh]; decide)
        exact ⟨_, _, div_infa ha hb ia (fin_of nb ib), by rw [if_neg h, if_neg iz, if_pos ia]; exact ⟨rfl, rfl⟩⟩
      · by_cases ib : mag b = INF
        · exact ⟨_, _, div_infb ha hb (fin_of na ia) ib, by rw [if_neg h, if_neg iz, if_neg ia, if_pos ib]; exact ⟨rfl, rfl⟩⟩
        · by_cases zb : mag b = 0
          · have za : mag a ≠ 0 := fun hh => iz (by unfold divBad; rw [zb, hh]; decide)
            exact ⟨_, _, div_zero ha hb (fin_of na ia) za zb, by rw [if_neg h, if_neg iz, if_neg ia, if_neg ib, if_pos zb]; exact ⟨rfl, rfl⟩⟩
          · obtain ⟨r, f, ev, rd⟩ := div_fin ha hb (fin_of na ia) (fin_of nb ib) zb
            exact ⟨r, f, ev, by rw [if_neg h, if_neg iz, if_neg ia, if_neg ib, if_neg zb]; exact rd⟩
theorem DivR.unique {a b r f r' f' : Int} (h : DivR a b r f) (h' : DivR a b r' f') : r = r' ∧ f = f' := by
  unfold DivR at h h'
  by_cases c1 : (isNan a || isNan b) = true
  · rw [if_pos c1] at h h'; omega
  · rw [if_neg c1] at h h'
    by_cases c2 : divBad a b = true
    · rw [if_pos c2] at h h'; omega
    · rw [if_neg c2] at h h'
      by_cases c3 : mag a = INF
      · rw [if_pos c3] at h h'; omega
      · rw [if_neg c3] at h h'
        by_cases c4 : mag b = INF
        · rw [if_pos c4] at h h'; omega
        · rw [if_neg c4] at h h'
          by_cases c5 : mag b = 0
          · rw [if_pos c5] at h h'; omega
          · rw [if_neg c5] at h h'; exact h.unique h'
theorem DivR.flags {a b r f : Int} (h : DivR a b r f) : 0 ≤ f ∧ f ≤ 16 := by
  have := nanF_le a b
  unfold DivR at h
  split at h
  · omega
  · split at h
    · omega
    · split at h
      · omega
      · split at h
        · omega
        · split at h
          · omega
          · exact h.flags
end Gim
