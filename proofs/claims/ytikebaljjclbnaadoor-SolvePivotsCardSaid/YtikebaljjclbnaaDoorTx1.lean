/- Texts of this claim, one behind the other: what the functions answer. -/
import Derived.Test.YtikebaljjclbnaaDoorTx0
import Derived.Test.YtikebaljjclbnaaDoorRx0
set_option linter.constructorNameAsVariable false
set_option linter.unusedSimpArgs false
set_option linter.unusedVariables false
set_option linter.unusedSectionVars false
namespace Gim
open Go Go.RowKit Go.Proofs.YtikebaljjclbnaaDoorW.PrintWords Go.Proofs.YtikebaljjclbnaaDoorW.PrintLast Go.Proofs.YtikebaljjclbnaaDoorW.PrintMore Go.Proofs.YtikebaljjclbnaaDoor.F
set_option linter.unusedVariables false


/-- What a divisor of 64 bits, its highest one set, is made of. -/
structure Norm (y y1 y0 : Int) : Prop where
  eq : y = y1 * 4294967296 + y0
  l1 : 2147483648 ≤ y1
  h1 : y1 < 4294967296
  l0 : 0 ≤ y0
  h0 : y0 < 4294967296

/-- A digit that is guessed is right, or too great. -/
structure Guess (y y1 y0 u d q rh : Int) : Prop where
  u0 : 0 ≤ u
  u1 : u < y
  d0 : 0 ≤ d
  d1 : d < 4294967296
  rh0 : 0 ≤ rh
  rhe : rh = u - q * y1
  q0 : (u * 4294967296 + d) / y ≤ q
  q1 : q ≤ 4294967297

theorem quo_lt {y u d : Int} (hy : 0 < y) (u0 : 0 ≤ u) (u1 : u < y) (d0 : 0 ≤ d) (d1 : d < 4294967296) : 0 ≤ (u * 4294967296 + d) / y ∧ (u * 4294967296 + d) / y < 4294967296 := by
  refine ⟨Int.ediv_nonneg (by omega) (by omega), Int.ediv_lt_of_lt_mul hy (by omega)⟩
theorem guess_first {y y1 y0 u d : Int} (n : Norm y y1 y0) (u0 : 0 ≤ u) (u1 : u < y) (d0 : 0 ≤ d) (d1 : d < 4294967296) : Guess y y1 y0 u d (u / y1) (u - u / y1 * y1) := by
  obtain ⟨e, l1, h1, l0, h0⟩ := n
  have hy1 : 0 < y1 := by omega
  have hy : 0 < y := by omega
  have m := Int.mul_ediv_add_emod u y1
  have r0 := Int.emod_nonneg u (Int.ne_of_gt hy1)
  have c : u / y1 * y1 = y1 * (u / y1) := Int.mul_comm _ _
  refine ⟨u0, u1, d0, d1, by omega, rfl, ?_, ?_⟩
  · -- (u 2^32 + d)/y ≤ (u 2^32 + d)/(y1 2^32) = u/y1
    have h2 : 0 < y1 * 4294967296 := by omega
    have h3 : (u * 4294967296 + d) / (y1 * 4294967296) = u / y1 := by
      rw [Int.mul_comm y1, ← Int.ediv_ediv_of_nonneg (by decide)]
      congr 1
      omega
    rw [← h3]
    have m2 := Int.mul_ediv_add_emod (u * 4294967296 + d) y
    have r2 := Int.emod_nonneg (u * 4294967296 + d) (Int.ne_of_gt hy)
    apply Int.le_ediv_of_mul_le h2
    have q0 := (quo_lt hy u0 u1 d0 d1).1
    have : (u * 4294967296 + d) / y * (y1 * 4294967296) ≤ (u * 4294967296 + d) / y * y := Int.mul_le_mul_of_nonneg_left (by omega) q0
    have c2 : (u * 4294967296 + d) / y * y = y * ((u * 4294967296 + d) / y) := Int.mul_comm _ _
    omega
  · have : u / y1 < 4294967298 := by apply Int.ediv_lt_of_lt_mul hy1; omega
    omega
theorem prod32 {q y0 : Int} (q0 : 0 ≤ q) (q1 : q ≤ 4294967297) (l0 : 0 ≤ y0) (h0 : y0 < 4294967296) : 0 ≤ q * y0 ∧ q * y0 ≤ 18446744073709551615 := by
  have := mul_bound q0 l0 q1 (show y0 ≤ 4294967295 by omega)
  omega
/-- The test: is the digit too great? -/
theorem guess_test {y y1 y0 u d q rh : Int} (n : Norm y y1 y0) (g : Guess y y1 y0 u d q rh) (hr : rh < 4294967296) :
    (q ≥ 4294967296 ∨ q * y0 > 4294967296 * rh + d) ↔ (u * 4294967296 + d) / y < q := by
  obtain ⟨e, l1, h1, l0, h0⟩ := n
  have hy : 0 < y := by omega
  obtain ⟨q2, q3⟩ := quo_lt hy g.u0 g.u1 g.d0 g.d1
  have hq := g.q0
  have e1 : q * y = q * y1 * 4294967296 + q * y0 := by rw [e]; grind
  have e2 : q * y1 = u - rh := by have := g.rhe; omega
  have key : q * y0 > 4294967296 * rh + d ↔ (u * 4294967296 + d) / y < q := by
    rw [Int.ediv_lt_iff_lt_mul hy, e1, e2]
    constructor <;> intro h <;> omega
  constructor
  · rintro (h | h)
    · omega
    · exact key.mp h
  · intro h
    exact .inr (key.mpr h)
theorem guess_next {y y1 y0 u d q rh : Int} (n : Norm y y1 y0) (g : Guess y y1 y0 u d q rh) (h : (u * 4294967296 + d) / y < q) : Guess y y1 y0 u d (q - 1) (rh + y1) := by
  have := n.l1
  have e : (q - 1) * y1 = q * y1 - y1 := by grind
  exact ⟨g.u0, g.u1, g.d0, g.d1, by have := g.rh0; omega, by have := g.rhe; omega, by omega, by have := g.q1; omega⟩
/-- Where the rest is great, the digit is right. -/
theorem guess_done {y y1 y0 u d q rh : Int} (n : Norm y y1 y0) (g : Guess y y1 y0 u d q rh) (hr : 4294967296 ≤ rh) (hq : q ≤ 4294967296) : q = (u * 4294967296 + d) / y := by
  obtain ⟨e, l1, h1, l0, h0⟩ := n
  have hy : 0 < y := by omega
  obtain ⟨q2, q3⟩ := quo_lt hy g.u0 g.u1 g.d0 g.d1
  have hq0 := g.q0
  have e1 : q * y = q * y1 * 4294967296 + q * y0 := by rw [e]; grind
  have e2 : q * y1 = u - rh := by have := g.rhe; omega
  have p := mul_bound (show 0 ≤ q by omega) l0 hq (show y0 ≤ 4294967295 by omega)
  have : q ≤ (u * 4294967296 + d) / y := by
    apply Int.le_ediv_of_mul_le hy
    rw [e1, e2]
    have := g.d0
    omega
  omega

theorem low_digit {y y1 y0 x9 x10 un0 q1 : Int} (n : Norm y y1 y0) {u d : Int} (hd0 : 0 ≤ un0) (hd1 : un0 < 4294967296) (hq0 : 0 ≤ q1) (hq1 : q1 < 4294967296) (u0 : 0 ≤ u) (u1 : u < y) (hy : y < 18446744073709551616) (k : Nat) :
    ∀ q rh, Guess y y1 y0 u un0 q rh → rh < 4294967296 → (q - (u * 4294967296 + un0) / y).toNat ≤ k →
      Ev (fun f => bits_Div64.l1 f y 0 y1 y0 un0 q1 rh u q) (q1 * 4294967296 + (u * 4294967296 + un0) / y, (u * 4294967296 + un0) % y) := by
  have hy0 : 0 < y := by have := n.eq; have := n.l1; have := n.l0; omega
  obtain ⟨t0, t1⟩ := quo_lt hy0 u0 u1 hd0 hd1
  have md := Int.mul_ediv_add_emod (u * 4294967296 + un0) y
  have r0 := Int.emod_nonneg (u * 4294967296 + un0) (Int.ne_of_gt hy0)
  have r1 := Int.emod_lt_of_pos (u * 4294967296 + un0) hy0
  -- the end
  have fin : ∀ q : Int, q = (u * 4294967296 + un0) / y → IntKind.u64.wrap (q1 * 4294967296 + q) = q1 * 4294967296 + (u * 4294967296 + un0) / y ∧
      shr .u64 (IntKind.u64.wrap (IntKind.u64.wrap (IntKind.u64.wrap (u * 4294967296) + un0) - IntKind.u64.wrap (q * y))) 0 = (u * 4294967296 + un0) % y := by
    intro q hq
    refine ⟨by rw [hq]; exact wu64 (by omega) (by omega), ?_⟩
    rw [shr_u64 (by decide) (by decide), p2_0, Int.ediv_one, hq, wu64_mod, wu64_mod, wu64_mod, wu64_mod]
    have c : (u * 4294967296 + un0) / y * y = y * ((u * 4294967296 + un0) / y) := Int.mul_comm _ _
    rw [c]
    generalize y * ((u * 4294967296 + un0) / y) = Z at *
    generalize (u * 4294967296 + un0) % y = R at *
    omega
  induction k with
  | zero =>
    intro q rh g hr hk
    have hq : q = (u * 4294967296 + un0) / y := by have := g.q0; omega
    obtain ⟨f1, f2⟩ := fin q hq
    have ht := guess_test n g hr
    have hno : ¬ (q ≥ 4294967296 ∨ q * y0 > 4294967296 * rh + un0) := fun h => by have := ht.mp h; omega
    refine Ev.succ ?_
    simp only [bits_Div64.l1]
    refine Ev.neg (fun h => hno (.inl h)) (Ev.succ ?_)
    simp only [bits_Div64.j4]
    have p := prod32 (show 0 ≤ q by omega) g.q1 n.l0 n.h0
    have := g.rh0
    rw [wu64 (x := q * y0) (by omega) (by omega), wu64 (x := 4294967296 * rh) (by omega) (by omega), wu64 (x := 4294967296 * rh + un0) (by omega) (by omega),
      decide_eq_false (fun h => hno (.inr h))]
    refine Ev.neg (by decide) (Ev.pos (by decide) ?_)
    rw [wu64 (x := q1 * 4294967296) (by omega) (by omega), f1, f2]
    exact Ev.now _
  | succ k ih =>
    intro q rh g hr hk
    by_cases hq : q = (u * 4294967296 + un0) / y
    · exact ih q rh g hr (by omega)
    · have hlt : (u * 4294967296 + un0) / y < q := by have := g.q0; omega
      have ht := (guess_test n g hr).mpr hlt
      have g' := guess_next n g hlt
      have rh0 := g.rh0
      have l1 := n.l1
      have h1 := n.h1
      have gq1 := g.q1
      -- what the test answers leads on
      have on : Ev (fun f => bits_Div64.j4 f y 0 y1 y0 un0 q1 rh u q true) (q1 * 4294967296 + (u * 4294967296 + un0) / y, (u * 4294967296 + un0) % y) := by
        refine Ev.succ ?_
        simp only [bits_Div64.j4]
        rw [wu64 (x := rh + y1) (by omega) (by omega), wu64 (x := q - 1) (by omega) (by omega)]
        refine Ev.pos trivial ?_
        by_cases hb : rh + y1 ≥ 4294967296
        · have hq' := guess_done n g' hb (by omega)
          obtain ⟨f1, f2⟩ := fin (q - 1) hq'
          refine Ev.pos hb (Ev.pos (by decide) ?_)
          rw [wu64 (x := q1 * 4294967296) (by omega) (by omega), f1, f2]
          exact Ev.now _
        · exact Ev.neg hb (ih (q - 1) (rh + y1) g' (by omega) (by omega))
      refine Ev.succ ?_
      simp only [bits_Div64.l1]
      by_cases hbig : q ≥ 4294967296
      · exact Ev.pos hbig on
      · refine Ev.neg hbig ?_
        have p := prod32 (show 0 ≤ q by omega) g.q1 n.l0 n.h0
        rw [wu64 (x := q * y0) (by omega) (by omega), wu64 (x := 4294967296 * rh) (by omega) (by omega), wu64 (x := 4294967296 * rh + un0) (by omega) (by omega),
          decide_eq_true (by rcases ht with h | h; exact absurd h hbig; exact h)]
        exact on

theorem high_digit {y y1 y0 u un1 un0 : Int} (n : Norm y y1 y0) (hy : y < 18446744073709551616) (u0 : 0 ≤ u) (u1 : u < y) (d0 : 0 ≤ un1) (d1 : un1 < 4294967296) (e0 : 0 ≤ un0) (e1 : un0 < 4294967296) (k : Nat) :
    ∀ q rh, Guess y y1 y0 u un1 q rh → rh < 4294967296 → (q - (u * 4294967296 + un1) / y).toNat ≤ k →
      Ev (fun f => bits_Div64.l0 f y 0 y1 y0 u un1 un0 q rh) ((u * 4294967296 + un1) / y * 4294967296 + ((u * 4294967296 + un1) % y * 4294967296 + un0) / y, ((u * 4294967296 + un1) % y * 4294967296 + un0) % y) := by
  have hy0 : 0 < y := by have := n.eq; have := n.l1; have := n.l0; omega
  obtain ⟨t0, t1⟩ := quo_lt hy0 u0 u1 d0 d1
  have md := Int.mul_ediv_add_emod (u * 4294967296 + un1) y
  have r0 := Int.emod_nonneg (u * 4294967296 + un1) (Int.ne_of_gt hy0)
  have r1 := Int.emod_lt_of_pos (u * 4294967296 + un1) hy0
  have l1 := n.l1
  have h1 := n.h1
  have hy1 : 0 < y1 := by omega
  -- on to the second digit
  have fin : ∀ q : Int, q = (u * 4294967296 + un1) / y → Ev (fun f => bits_Div64.j2 f y 0 y1 y0 u un1 un0 q) ((u * 4294967296 + un1) / y * 4294967296 + ((u * 4294967296 + un1) % y * 4294967296 + un0) / y, ((u * 4294967296 + un1) % y * 4294967296 + un0) % y) := by
    intro q hq
    have eu : IntKind.u64.wrap (IntKind.u64.wrap (IntKind.u64.wrap (u * 4294967296) + un1) - IntKind.u64.wrap (q * y)) = (u * 4294967296 + un1) % y := by
      rw [hq, wu64_mod, wu64_mod, wu64_mod, wu64_mod]
      have c : (u * 4294967296 + un1) / y * y = y * ((u * 4294967296 + un1) / y) := Int.mul_comm _ _
      rw [c]
      generalize y * ((u * 4294967296 + un1) / y) = Z at *
      generalize (u * 4294967296 + un1) % y = R at *
      omega
    refine Ev.succ ?_
    simp only [bits_Div64.j2]
    refine Ev.neg (by omega) ?_
    rw [eu, Int.tdiv_eq_ediv_of_nonneg r0]
    have g := guess_first (u := (u * 4294967296 + un1) % y) (d := un0) n r0 r1 e0 e1
    have gq := g.q1
    have gr := g.rh0
    have m := Int.mul_ediv_add_emod ((u * 4294967296 + un1) % y) y1
    have s0 := Int.emod_nonneg ((u * 4294967296 + un1) % y) (Int.ne_of_gt hy1)
    have s1 := Int.emod_lt_of_pos ((u * 4294967296 + un1) % y) hy1
    have c : (u * 4294967296 + un1) % y / y1 * y1 = y1 * ((u * 4294967296 + un1) % y / y1) := Int.mul_comm _ _
    have qn : 0 ≤ (u * 4294967296 + un1) % y / y1 := Int.ediv_nonneg r0 (by omega)
    have qy := Int.mul_nonneg qn (show 0 ≤ y1 by omega)
    rw [wu64 (x := (u * 4294967296 + un1) % y / y1) qn (by omega), wu64 (x := (u * 4294967296 + un1) % y / y1 * y1) (by omega) (by omega), wu64 (x := (u * 4294967296 + un1) % y - (u * 4294967296 + un1) % y / y1 * y1) (by omega) (by omega)]
    have := low_digit (x9 := 0) (x10 := 0) (q1 := q) n (d := 0) e0 e1 (by omega) (by omega) r0 r1 hy _ _ _ g (by omega) (Nat.le_refl _)
    rw [hq] at this ⊢
    exact this
  induction k with
  | zero =>
    intro q rh g hr hk
    have hq : q = (u * 4294967296 + un1) / y := by have := g.q0; omega
    have ht := guess_test n g hr
    have hno : ¬ (q ≥ 4294967296 ∨ q * y0 > 4294967296 * rh + un1) := fun h => by have := ht.mp h; omega
    refine Ev.succ ?_
    simp only [bits_Div64.l0]
    refine Ev.neg (fun h => hno (.inl h)) (Ev.succ ?_)
    simp only [bits_Div64.j1]
    have p := prod32 (show 0 ≤ q by omega) g.q1 n.l0 n.h0
    have := g.rh0
    rw [wu64 (x := q * y0) (by omega) (by omega), wu64 (x := 4294967296 * rh) (by omega) (by omega), wu64 (x := 4294967296 * rh + un1) (by omega) (by omega),
      decide_eq_false (fun h => hno (.inr h))]
    exact Ev.neg (by decide) (fin q hq)
  | succ k ih =>
    intro q rh g hr hk
    by_cases hq : q = (u * 4294967296 + un1) / y
    · exact ih q rh g hr (by omega)
    · have hlt : (u * 4294967296 + un1) / y < q := by have := g.q0; omega
      have ht := (guess_test n g hr).mpr hlt
      have g' := guess_next n g hlt
      have rh0 := g.rh0
      have gq1 := g.q1
      have on : Ev (fun f => bits_Div64.j1 f y 0 y1 y0 u un1 un0 q rh true) ((u * 4294967296 + un1) / y * 4294967296 + ((u * 4294967296 + un1) % y * 4294967296 + un0) / y, ((u * 4294967296 + un1) % y * 4294967296 + un0) % y) := by
        refine Ev.succ ?_
        simp only [bits_Div64.j1]
        rw [wu64 (x := rh + y1) (by omega) (by omega), wu64 (x := q - 1) (by omega) (by omega)]
        refine Ev.pos trivial ?_
        by_cases hb : rh + y1 ≥ 4294967296
        · exact Ev.pos hb (fin (q - 1) (guess_done n g' hb (by omega)))
        · exact Ev.neg hb (ih (q - 1) (rh + y1) g' (by omega) (by omega))
      refine Ev.succ ?_
      simp only [bits_Div64.l0]
      by_cases hbig : q ≥ 4294967296
      · exact Ev.pos hbig on
      · refine Ev.neg hbig ?_
        have p := prod32 (show 0 ≤ q by omega) g.q1 n.l0 n.h0
        rw [wu64 (x := q * y0) (by omega) (by omega), wu64 (x := 4294967296 * rh) (by omega) (by omega), wu64 (x := 4294967296 * rh + un1) (by omega) (by omega),
          decide_eq_true (by rcases ht with h | h; exact absurd h hbig; exact h)]
        exact on

/-- A quotient of 128 bits by 64, the divisor's highest bit set, nothing in the low word. -/
theorem bits_Div64_ev {u y : Int} (u0 : 0 < u) (u1 : u < y) (y0 : 9223372036854775808 ≤ y) (y1 : y < 18446744073709551616) :
    Ev (fun k => bits_Div64.f k u 0 y) (u * 18446744073709551616 / y, u * 18446744073709551616 % y) := by
  have hy0 : 0 < y := by omega
  have hU : U y := ⟨by omega, y1⟩
  have bl : blen y = 64 := blen_unique (by decide) (by rw [show p2 (64 - 1) = 9223372036854775808 from by decide]; exact y0) (by rw [p2_64]; exact y1)
  have lz : Ev (fun k => bits_LeadingZeros64.f k y) 0 := by
    unfold bits_LeadingZeros64.f
    refine Ev.bind (bits_Len64_ev hU) ?_
    rw [bl, w64 (x := 64 - 64) (by decide) (by decide)]
    exact Ev.now _
  have n : Norm y (y / 4294967296) (y % 4294967296) := ⟨by omega, by omega, by omega, by omega, by omega⟩
  have g := guess_first (u := u) (d := 0) n (by omega) u1 (by decide) (by decide)
  have hq0 : 0 < y / 4294967296 := by omega
  have m := Int.mul_ediv_add_emod u (y / 4294967296)
  have s0 := Int.emod_nonneg u (Int.ne_of_gt hq0)
  have s1 := Int.emod_lt_of_pos u hq0
  have c : u / (y / 4294967296) * (y / 4294967296) = y / 4294967296 * (u / (y / 4294967296)) := Int.mul_comm _ _
  have qn : 0 ≤ u / (y / 4294967296) := Int.ediv_nonneg (by omega) (by omega)
  have qy := Int.mul_nonneg qn (show 0 ≤ y / 4294967296 by omega)
  have gq := g.q1
  have hd := high_digit (un1 := 0) (un0 := 0) n y1 (by omega) u1 (by decide) (by decide) (by decide) (by decide) _ _ _ g (by omega) (Nat.le_refl _)
  -- the two digits are the quotient
  have e : u * 18446744073709551616 / y = (u * 4294967296 + 0) / y * 4294967296 + ((u * 4294967296 + 0) % y * 4294967296 + 0) / y ∧ u * 18446744073709551616 % y = ((u * 4294967296 + 0) % y * 4294967296 + 0) % y := by
    rw [Int.add_zero, Int.add_zero]
    have md := Int.mul_ediv_add_emod (u * 4294967296) y
    have e1 : u * 18446744073709551616 = u * 4294967296 % y * 4294967296 + y * (u * 4294967296 / y * 4294967296) := by
      generalize u * 4294967296 % y = R at *
      generalize u * 4294967296 / y = Q at *
      have : y * (Q * 4294967296) = y * Q * 4294967296 := by grind
      omega
    rw [e1]
    constructor
    · rw [Int.add_mul_ediv_left _ _ (Int.ne_of_gt hy0)]; omega
    · rw [Int.add_mul_emod_self_left]
  rw [e.1, e.2]
  unfold bits_Div64.f
  refine Ev.neg (by omega) (Ev.neg (by omega) (Ev.neg (by omega) (Ev.bind lz ?_)))
  rw [show IntKind.u64.wrap 0 = 0 from by decide, show IntKind.u64.wrap (64 - 0) = 64 from by decide]
  have ey : shl .u64 y 0 = y := by rw [shl_u64 (by decide) (by decide), p2_0]; omega
  have eu : shl .u64 u 0 = u := by rw [shl_u64 (by decide) (by decide), p2_0]; omega
  have e0 : shl .u64 0 0 = 0 := by decide
  have es : shr .u64 0 64 = 0 := by decide
  have eo : bits .or .u64 u 0 = u := by
    have := u64_or 0 (x := u) (y := 0) (by omega) (by simp) (by omega) (by decide) (by decide) (by decide)
    rw [this, Int.add_zero]
  rw [ey, eu, e0, es, eo, u64_and32 (by omega) y1, show bits .and .u64 0 4294967295 = 0 from by decide]
  refine Ev.pos (by decide) (Ev.pos (by decide) (Ev.neg (by omega) ?_))
  rw [Int.tdiv_eq_ediv_of_nonneg (by omega), wu64 (x := u / (y / 4294967296)) qn (by omega), wu64 (x := u / (y / 4294967296) * (y / 4294967296)) (by omega) (by omega), wu64 (x := u - u / (y / 4294967296) * (y / 4294967296)) (by omega) (by omega)]
  exact hd
theorem wide_Div_ev {u y : Int} (u0 : 0 < u) (u1 : u < y) (y0 : 9223372036854775808 ≤ y) (y1 : y < 18446744073709551616) :
    Ev (fun k => wide_Wide_Div.f k u 0 y) (u * 18446744073709551616 / y, u * 18446744073709551616 % y, true) := by
  unfold wide_Wide_Div.f
  exact Ev.neg (by omega) (Ev.bind (bits_Div64_ev u0 u1 y0 y1) (Ev.now _))

theorem div_nan {a b : Int} (ha : U a) (hb : U b) (h : (isNan a || isNan b) = true) : Ev (fun k => soft_Div.f k a b) (QNAN, nanF a b) := by
  unfold soft_Div.f
  refine Ev.bind (soft_nan2 ha hb) ?_
  exact Ev.pos h (Ev.now _)
/-- Infinity by infinity, or zero by zero? -/
def divBad (a b : Int) : Bool := (decide (mag a = INF) && decide (mag b = INF)) || (decide (mag a = 0) && decide (mag b = 0))
theorem div_kinds {a b : Int} (ha : U a) (hb : U b) (h : (isNan a || isNan b) = false) {r : Int × Int}
    (hk : Ev (fun k => soft_Div.j0 k a b (neg a != neg b) (kindOf (mag a)) (kindOf (mag b)) (divBad a b)) r) : Ev (fun k => soft_Div.f k a b) r := by
  unfold soft_Div.f
  refine Ev.bind (soft_nan2 ha hb) (Ev.neg (by simp only [h]; decide) (Ev.call (word_Neg_eq ha) (Ev.call (word_Neg_eq hb) (Ev.bind (word_Kind_ev ha) (Ev.bind (word_Kind_ev hb) ?_)))))
  rw [kind_mag, kind_mag, neg_def, neg_def]
  have kz : ∀ c : Int, (kindOf (mag c) == 1) = decide (mag c = 0) := fun c => by
    rw [Bool.eq_iff_iff]; simp only [beq_iff_eq, decide_eq_true_eq]; exact kind_zero
  have I0 : (INF : Int) ≠ 0 := by decide
  rw [kz]
  by_cases c1 : kindOf (mag a) = 4
  · have m1 := kind_inf.mp c1
    have n1 : ¬ kindOf (mag a) = 1 := by rw [c1]; decide
    by_cases c2 : kindOf (mag b) = 4
    · have m2 := kind_inf.mp c2
      have e : divBad a b = true := by unfold divBad; rw [m1, m2]; decide
      rw [e] at hk
      exact Ev.pos c1 (Ev.pos c2 hk)
    · have m2 : mag b ≠ INF := fun h => c2 (kind_inf.mpr h)
      have e : divBad a b = false := by unfold divBad; rw [m1]; simp [m2, I0]
      rw [e] at hk
      exact Ev.pos c1 (Ev.neg c2 (Ev.neg n1 hk))
  · have m1 : mag a ≠ INF := fun h => c1 (kind_inf.mpr h)
    by_cases c2 : kindOf (mag a) = 1
    · have m2 := kind_zero.mp c2
      have e : divBad a b = decide (mag b = 0) := by unfold divBad; rw [m2]; simp [Ne.symm I0]
      rw [e] at hk
      exact Ev.neg c1 (Ev.pos c2 hk)
    · have m2 : mag a ≠ 0 := fun h => c2 (kind_zero.mpr h)
      have e : divBad a b = false := by unfold divBad; simp [m1, m2]
      rw [e] at hk
      exact Ev.neg c1 (Ev.neg c2 hk)
theorem div_bad {a b : Int} (ha : U a) (hb : U b) (h : divBad a b = true) : Ev (fun k => soft_Div.f k a b) (QNAN, 16) := by
  refine div_kinds ha hb ?_ ?_
  · unfold divBad at h
    have h0 : isNan a = false ∧ isNan b = false := by
      unfold isNan INF at *
      simp at h ⊢
      omega
    rw [h0.1, h0.2]; rfl
  · refine Ev.succ ?_
    simp only [soft_Div.j0]
    exact Ev.pos h (Ev.now _)
theorem div_infa {a b : Int} (ha : U a) (hb : U b) (h1 : mag a = INF) (h2 : fin b) : Ev (fun k => soft_Div.f k a b) (signed (neg a != neg b) INF, 0) := by
  refine div_kinds ha hb (by rw [fin_nan h2]; unfold isNan; rw [h1]; decide) (Ev.succ ?_)
  simp only [soft_Div.j0]
  have hb0 : divBad a b = false := by
    have : mag b ≠ INF := by unfold fin at h2; omega
    unfold divBad; rw [h1]; simp [this]; intro h; exact absurd h (by decide)
  exact Ev.neg (by rw [hb0]; decide) (Ev.pos (kind_inf.mpr h1) (Ev.call (make_inf _) (Ev.now _)))
theorem div_infb {a b : Int} (ha : U a) (hb : U b) (h1 : fin a) (h2 : mag b = INF) : Ev (fun k => soft_Div.f k a b) (signed (neg a != neg b) 0, 0) := by
  have h3 : mag a ≠ INF := by unfold fin at h1; omega
  refine div_kinds ha hb (by rw [fin_nan h1]; unfold isNan; rw [h2]; decide) (Ev.succ ?_)
  simp only [soft_Div.j0]
  have hb0 : divBad a b = false := by
    unfold divBad; rw [h2]; simp [h3]; intro _ h; exact absurd h (by decide)
  refine Ev.neg (by rw [hb0]; decide) (Ev.neg (fun h => h3 (kind_inf.mp h)) (Ev.pos (kind_inf.mpr h2) (Ev.succ ?_)))
  simp only [soft_Div.j1]
  exact Ev.pos trivial (Ev.call (make_zero _) (Ev.now _))
theorem div_fin_start {a b : Int} (ha : U a) (hb : U b) (fa : fin a) (fb : fin b) (h0 : ¬ (mag a = 0 ∧ mag b = 0)) {r : Int × Int}
    (h : Ev (fun k => soft_Div.j1 k a b (neg a != neg b) (kindOf (mag b)) (decide (mag a = 0))) r) : Ev (fun k => soft_Div.f k a b) r := by
  have h3 : mag a ≠ INF := by unfold fin at fa; omega
  have h4 : mag b ≠ INF := by unfold fin at fb; omega
  have kz : (kindOf (mag a) == 1) = decide (mag a = 0) := by
    rw [Bool.eq_iff_iff]; simp only [beq_iff_eq, decide_eq_true_eq]; exact kind_zero
  refine div_kinds ha hb (by rw [fin_nan fa, fin_nan fb]; rfl) (Ev.succ ?_)
  simp only [soft_Div.j0]
  have hb0 : divBad a b = false := by
    unfold divBad; simp [h3]; intro h; exact fun h' => h0 ⟨h, h'⟩
  refine Ev.neg (by rw [hb0]; decide) (Ev.neg (fun h => h3 (kind_inf.mp h)) (Ev.neg (fun h => h4 (kind_inf.mp h)) ?_))
  rw [kz]
  exact h
/-- A number by zero. -/
theorem div_zero {a b : Int} (ha : U a) (hb : U b) (fa : fin a) (za : mag a ≠ 0) (zb : mag b = 0) : Ev (fun k => soft_Div.f k a b) (signed (neg a != neg b) INF, 8) := by
  refine div_fin_start ha hb fa (by unfold fin; rw [zb]; decide) (fun h => za h.1) (Ev.succ ?_)
  simp only [soft_Div.j1]
  exact Ev.neg (by simp [za]) (Ev.pos (kind_zero.mpr zb) (Ev.call (make_inf _) (Ev.now _)))

/-- DIV: of two numbers, the second of which isn't zero. -/
theorem div_fin {a b : Int} (ha : U a) (hb : U b) (fa : fin a) (fb : fin b) (zb : mag b ≠ 0) : ∃ r f, Ev (fun k => soft_Div.f k a b) (r, f) ∧ Rd (val a / val b) (neg a != neg b) r f := by
  have vb0 : val b ≠ 0 := fun h => zb (val_zero_iff.mp h)
  by_cases za : mag a = 0
  · refine ⟨_, 0, div_fin_start ha hb fa fb (fun h => zb h.2) (Ev.succ ?_), ⟨fun _ => ⟨rfl, rfl⟩, fun h => absurd ?_ h⟩⟩
    · simp only [soft_Div.j1]
      exact Ev.pos (by simp [za]) (Ev.call (make_zero _) (Ev.now _))
    · rw [val_zero_iff.mpr za, Rat.div_def]; grind
  · have ma0 := (mag_lt (a := a)).1
    have mb0 := (mag_lt (a := b)).1
    have pa := word_Parts_ev ha (show 0 < mag a by omega) fa
    have pb := word_Parts_ev hb (show 0 < mag b by omega) fb
    obtain ⟨ea1, ea2⟩ := fin_expo fa
    obtain ⟨eb1, eb2⟩ := fin_expo fb
    have ma := mant_pos (m := mag a) (by omega)
    have ma' := mant_lt (m := mag a)
    have mb := mant_pos (m := mag b) (by omega)
    have mb' := mant_lt (m := mag b)
    have va : vm (mag a) = (mant (mag a) : Rat) * pw (expo (mag a)) := rfl
    have vb : vm (mag b) = (mant (mag b) : Rat) * pw (expo (mag b)) := rfl
    have emag : ∀ c : Int, c % 9223372036854775808 = mag c := fun _ => rfl
    rw [emag] at pa pb
    generalize hM : mant (mag a) = M at *
    generalize hN : mant (mag b) = N at *
    generalize hE : expo (mag a) = E at *
    generalize hG : expo (mag b) = G at *
    obtain ⟨bm1, bm2, bm3⟩ := blen_pos ma
    obtain ⟨bn1, bn2, bn3⟩ := blen_pos mb
    have hLm : blen M ≤ 53 := blen_le (by decide) (by rw [show p2 53 = 9007199254740992 from by decide]; omega)
    have hLn : blen N ≤ 53 := blen_le (by decide) (by rw [show p2 53 = 9007199254740992 from by decide]; omega)
    -- the shifted numbers
    have hs : 0 ≤ 53 - blen M + 10 := by omega
    have ht : 0 ≤ 64 - blen N := by omega
    have hP := p2_pos (53 - blen M + 10)
    have hQ := p2_pos (64 - blen N)
    have u0 : 4611686018427387904 ≤ M * p2 (53 - blen M + 10) := by
      have e : (4611686018427387904 : Int) = p2 (blen M - 1) * p2 (53 - blen M + 10) := by rw [← p2_add (by omega) hs, show blen M - 1 + (53 - blen M + 10) = 62 from by omega]; decide
      rw [e]; exact Int.mul_le_mul_of_nonneg_right bm2 (by omega)
    have u1 : M * p2 (53 - blen M + 10) < 9223372036854775808 := by
      have e : (9223372036854775808 : Int) = p2 (blen M) * p2 (53 - blen M + 10) := by rw [← p2_add (by omega) hs, show blen M + (53 - blen M + 10) = 63 from by omega]; decide
      rw [e]; exact Int.mul_lt_mul_of_pos_right bm3 hP
    have y0 : 9223372036854775808 ≤ N * p2 (64 - blen N) := by
      have e : (9223372036854775808 : Int) = p2 (blen N - 1) * p2 (64 - blen N) := by rw [← p2_add (by omega) ht, show blen N - 1 + (64 - blen N) = 63 from by omega]; decide
      rw [e]; exact Int.mul_le_mul_of_nonneg_right bn2 (by omega)
    have y1 : N * p2 (64 - blen N) < 18446744073709551616 := by
      have e : (18446744073709551616 : Int) = p2 (blen N) * p2 (64 - blen N) := by rw [← p2_add (by omega) ht, show blen N + (64 - blen N) = 64 from by omega]; decide
      rw [e]; exact Int.mul_lt_mul_of_pos_right bn3 hQ
    have dv := wide_Div_ev (u := M * p2 (53 - blen M + 10)) (y := N * p2 (64 - blen N)) (by omega) (by omega) y0 y1
    have es : shl .u64 M (53 - blen M + 10) = M * p2 (53 - blen M + 10) := by rw [shl_u64 hs (by omega)]; exact Int.emod_eq_of_lt (by omega) (by omega)
    have et : shl .u64 N (64 - blen N) = N * p2 (64 - blen N) := by rw [shl_u64 ht (by omega)]; exact Int.emod_eq_of_lt (by omega) (by omega)
    -- the quotient as a number
    have hx : rabs (val a / val b) * ((N * p2 (64 - blen N) : Int) : Rat) = ((M * p2 (53 - blen M + 10) * 18446744073709551616 : Int) : Rat) * pw (E - (53 - blen M) - 10 - 64 - (G - (64 - blen N))) := by
      have e1 : rabs (val a / val b) * vm (mag b) = vm (mag a) := by
        have p1 := vm_pos (m := mag a) (by omega)
        have p2 := vm_pos (m := mag b) (by omega)
        have e0 : val a / val b * val b = val a := by rw [Rat.div_mul_cancel vb0]
        have e3 : rabs (val a / val b) * rabs (val b) = rabs (val a) := by
          rw [← rabs_mul, e0]
        rw [rabs_val, rabs_val] at e3
        exact e3
      rw [va, vb] at e1
      have w1 : ((p2 (53 - blen M + 10) : Int) : Rat) = pw (53 - blen M + 10) := (pw_p2 hs).symm
      have w2 : ((p2 (64 - blen N) : Int) : Rat) = pw (64 - blen N) := (pw_p2 ht).symm
      have w3 : (18446744073709551616 : Rat) = pw 64 := by rw [pw_p2 (by decide), p2_64]; rfl
      push_cast
      rw [w1, w2, w3]
      -- multiply by 2^G
      have hG' := pw_pos G
      have k1 : (rabs (val a / val b) * ((N : Rat) * pw (64 - blen N))) * pw G = ((M : Rat) * pw (53 - blen M + 10) * pw 64 * pw (E - (53 - blen M) - 10 - 64 - (G - (64 - blen N)))) * pw G := by
        have k2 : pw (53 - blen M + 10) * pw 64 * pw (E - (53 - blen M) - 10 - 64 - (G - (64 - blen N))) * pw G = pw E * pw (64 - blen N) := by
          rw [← pw_add, ← pw_add, ← pw_add, ← pw_add]; congr 1; omega
        have k3 : (rabs (val a / val b) * ((N : Rat) * pw (64 - blen N))) * pw G = (rabs (val a / val b) * ((N : Rat) * pw G)) * pw (64 - blen N) := by grind
        rw [k3, e1]
        grind
      exact Rat.le_antisymm (Rat.le_of_mul_le_mul_right (by rw [k1]; exact Rat.le_refl) hG') (Rat.le_of_mul_le_mul_right (by rw [k1]; exact Rat.le_refl) hG')
    have hX0 : 0 < rabs (val a / val b) := by
      refine rabs_pos (fun h => ?_)
      have : val a = 0 := by
        have e0 : val a / val b * val b = val a := by rw [Rat.div_mul_cancel vb0]
        rw [← e0, h]; grind
      exact za (val_zero_iff.mp this)
    generalize hu : M * p2 (53 - blen M + 10) = u at *
    generalize hy : N * p2 (64 - blen N) = y at *
    generalize hD : E - (53 - blen M) - 10 - 64 - (G - (64 - blen N)) = D at *
    have yp : 0 < y := by omega
    have md := Int.mul_ediv_add_emod (u * 18446744073709551616) y
    have r0 := Int.emod_nonneg (u * 18446744073709551616) (Int.ne_of_gt yp)
    have r1 := Int.emod_lt_of_pos (u * 18446744073709551616) yp
    have q0 : 4611686018427387904 ≤ u * 18446744073709551616 / y := by apply Int.le_ediv_of_mul_le yp; omega
    have q1 : u * 18446744073709551616 / y < 18446744073709551616 := by apply Int.ediv_lt_of_lt_mul yp; omega
    generalize hq : u * 18446744073709551616 / y = q at *
    generalize hr : u * 18446744073709551616 % y = r at *
    have hyr : (0 : Rat) < (y : Rat) := by exact_mod_cast yp
    have hw : wv 0 q = q := by unfold wv; omega
    have hblen : 54 ≤ blen q := by
      obtain ⟨c1, c2, c3⟩ := blen_pos (x := q) (by omega)
      refine Decidable.byContradiction fun hc => ?_
      have := p2_le (show blen q ≤ 53 from by omega)
      have e53 : p2 53 = 9007199254740992 := by decide
      omega
    have bd : -100000 ≤ D ∧ D ≤ 100000 := by omega
    obtain ⟨m, f, er, rb⟩ := round_Round_ev (neg a != neg b) U_0 ⟨by omega, q1⟩ bd.1 bd.2 (r != 0) (x := rabs (val a / val b)) (by rw [hw]; omega)
      (by intro h
          have h : r = 0 := by simpa using h
          rw [hw]
          have e1 : u * 18446744073709551616 = q * y := by rw [Int.mul_comm q]; omega
          rw [e1] at hx
          have e2 : rabs (val a / val b) * (y : Rat) = ((q : Rat) * pw D) * (y : Rat) := by push_cast at hx; grind
          exact Rat.le_antisymm (Rat.le_of_mul_le_mul_right (by rw [e2]; exact Rat.le_refl) hyr) (Rat.le_of_mul_le_mul_right (by rw [e2]; exact Rat.le_refl) hyr))
      (by intro h
          have h : r ≠ 0 := by simpa using h
          rw [hw]
          refine ⟨⟨?_, ?_⟩, hblen⟩
          · refine Rat.lt_of_mul_lt_mul_right (c := (y : Rat)) ?_ (Rat.le_of_lt hyr)
            rw [hx]
            have h1 : (y * q : Int) * pw D < (u * 18446744073709551616 : Int) * pw D := mul_pw_lt.mpr (by omega)
            push_cast at h1 ⊢; grind
          · refine Rat.lt_of_mul_lt_mul_right (c := (y : Rat)) ?_ (Rat.le_of_lt hyr)
            rw [hx]
            have h2 : y * (q + 1) = y * q + y := by grind
            have h1 : (u * 18446744073709551616 : Int) * pw D < (y * (q + 1) : Int) * pw D := mul_pw_lt.mpr (by omega)
            push_cast at h1 ⊢; grind)
    refine ⟨signed (neg a != neg b) m, f, div_fin_start ha hb fa fb (fun h => za h.1) (Ev.succ ?_), ⟨fun h => ?_, fun _ => ⟨m, rb, ?_⟩⟩⟩
    · simp only [soft_Div.j1]
      refine Ev.neg (by simp [za]) (Ev.neg (fun h => zb (kind_zero.mp h)) (Ev.bind pa (Ev.bind pb ?_)))
      dsimp only
      have l1 : wv 0 M = M := by unfold wv; omega
      have l2 : wv 0 N = N := by unfold wv; omega
      have k1 := wide_Len_ev (h := 0) (l := M) U_0 ⟨by omega, by omega⟩
      have k2 := wide_Len_ev (h := 0) (l := N) U_0 ⟨by omega, by omega⟩
      rw [l1] at k1
      rw [l2] at k2
      refine Ev.bind k1 (Ev.bind k2 ?_)
      rw [w64 (x := 53 - blen M) (by omega) (by omega), w64 (x := 53 - blen M + 10) (by omega) (by omega), w64 (x := 64 - blen N) (by omega) (by omega), es, et,
        w64 (x := E - (53 - blen M)) (by omega) (by omega), w64 (x := E - (53 - blen M) - 10) (by omega) (by omega), w64 (x := E - (53 - blen M) - 10 - 64) (by omega) (by omega),
        w64 (x := G - (64 - blen N)) (by omega) (by omega), w64 (x := E - (53 - blen M) - 10 - 64 - (G - (64 - blen N))) (by omega) (by omega), hD]
      refine Ev.pos hs (Ev.pos ht (Ev.bind dv ?_))
      exact Ev.bind er (Ev.now _)
    · exfalso
      rw [h] at hX0
      exact absurd hX0 (by decide)
    · congr 1
      have p1 := vm_pos (m := mag a) (by omega)
      have p2 := vm_pos (m := mag b) (by omega)
      have e0 : val a / val b * val b = val a := by rw [Rat.div_mul_cancel vb0]
      have hne : val a / val b ≠ 0 := fun h => by rw [h] at hX0; exact absurd hX0 (by decide)
      have sa := val_eq a
      have sb := val_eq b
      generalize val a / val b = X at *
      generalize val a = A at *
      generalize val b = B at *
      by_cases c1 : X < 0
      · rw [decide_eq_true c1]
        cases h1 : neg a <;> cases h2 : neg b <;> rw [h1] at sa <;> rw [h2] at sb <;> simp at sa sb
        · have := Rat.mul_pos (show 0 < -X by grind) (show 0 < B by grind); grind
        · rfl
        · rfl
        · have := Rat.mul_pos (show 0 < -X by grind) (show 0 < -B by grind); grind
      · rw [decide_eq_false c1]
        have c2 : 0 < X := by grind
        cases h1 : neg a <;> cases h2 : neg b <;> rw [h1] at sa <;> rw [h2] at sb <;> simp at sa sb
        · rfl
        · have := Rat.mul_pos c2 (show 0 < -B by grind); grind
        · have := Rat.mul_pos c2 (show 0 < B by grind); grind
        · rfl
def DivR (a b r f : Int) : Prop :=
  if (isNan a || isNan b) = true then r = QNAN ∧ f = nanF a b
  else if divBad a b = true then r = QNAN ∧ f = 16
  else if mag a = INF then r = signed (neg a != neg b) INF ∧ f = 0
  else if mag b = INF then r = signed (neg a != neg b) 0 ∧ f = 0
  else if mag b = 0 then r = signed (neg a != neg b) INF ∧ f = 8
  else Rd (val a / val b) (neg a != neg b) r f

theorem div_ev {a b : Int} (ha : U a) (hb : U b) : ∃ r f, Ev (fun k => soft_Div.f k a b) (r, f) ∧ DivR a b r f := by
  unfold DivR
  by_cases h : (isNan a || isNan b) = true
  · exact ⟨_, _, div_nan ha hb h, by rw [if_pos h]; exact ⟨rfl, rfl⟩⟩
  · obtain ⟨h0, na, nb⟩ := nan_or h
    by_cases iz : divBad a b = true
    · exact ⟨_, _, div_bad ha hb iz, by rw [if_neg h, if_pos iz]; exact ⟨rfl, rfl⟩⟩
    · by_cases ia : mag a = INF
      · have ib : mag b ≠ INF := fun hh => iz (by unfold divBad; rw [ia, hh]; decide)
        exact ⟨_, _, div_infa ha hb ia (fin_of nb ib), by rw [if_neg h, if_neg iz, if_pos ia]; exact ⟨rfl, rfl⟩⟩
      · by_cases ib : mag b = INF
        · exact ⟨_, _, div_infb ha hb (fin_of na ia) ib, by rw [if_neg h, if_neg iz, if_neg ia, if_pos ib]; exact ⟨rfl, rfl⟩⟩
        · by_cases zb : mag b = 0
          · have za : mag a ≠ 0 := fun hh => iz (by unfold divBad; rw [zb, hh]; decide)
            exact ⟨_, _, div_zero ha hb (fin_of na ia) za zb, by rw [if_neg h, if_neg iz, if_neg ia, if_neg ib, if_pos zb]; exact ⟨rfl, rfl⟩⟩
          · obtain ⟨r, f, ev, rd⟩ := div_fin ha hb (fin_of na ia) (fin_of nb ib) zb
            exact ⟨r, f, ev, by rw [if_neg h, if_neg iz, if_neg ia, if_neg ib, if_neg zb]; exact rd⟩
theorem DivR.unique {a b r f r' f' : Int} (h : DivR a b r f) (h' : DivR a b r' f') : r = r' ∧ f = f' := by
  unfold DivR at h h'
  by_cases c1 : (isNan a || isNan b) = true
  · rw [if_pos c1] at h h'; omega
  · rw [if_neg c1] at h h'
    by_cases c2 : divBad a b = true
    · rw [if_pos c2] at h h'; omega
    · rw [if_neg c2] at h h'
      by_cases c3 : mag a = INF
      · rw [if_pos c3] at h h'; omega
      · rw [if_neg c3] at h h'
        by_cases c4 : mag b = INF
        · rw [if_pos c4] at h h'; omega
        · rw [if_neg c4] at h h'
          by_cases c5 : mag b = 0
          · rw [if_pos c5] at h h'; omega
          · rw [if_neg c5] at h h'; exact h.unique h'

theorem DivR.rangeU {a b r f : Int} (h : DivR a b r f) : U r := by
  unfold DivR at h
  have q : U QNAN := by unfold QNAN U; decide
  split at h
  · rw [h.1]; exact q
  · split at h
    · rw [h.1]; exact q
    · split at h
      · rw [h.1]; exact U_signed INF_lt.1 INF_lt.2
      · split at h
        · rw [h.1]; exact U_signed (by decide) (by decide)
        · split at h
          · rw [h.1]; exact U_signed INF_lt.1 INF_lt.2
          · exact h.range.1
noncomputable def dP (a b : Int) : Int × Int := resOf (fun k => soft_Div.f k a b)
theorem dP_ev {a b : Int} (ha : U a) (hb : U b) : Ev (fun k => soft_Div.f k a b) (dP a b) := by
  obtain ⟨r, f, ev, R⟩ := div_ev ha hb
  exact Ev.resE ev
theorem dP_R {a b : Int} (ha : U a) (hb : U b) : DivR a b (dP a b).1 (dP a b).2 := by
  obtain ⟨r, f, ev, R⟩ := div_ev ha hb
  rw [Ev.det (dP_ev ha hb) ev]
  exact R

theorem word_Flip_eq {a : Int} (h : U a) : word_Flip.f a = some (flip a) := by unfold word_Flip.f flip; rw [u64_xor h.1 h.2]

theorem sub_of_add {a b : Int} (hb : U b) {r : Int × Int} (h : Ev (fun k => soft_Add.f k a (flip b)) r) : Ev (fun k => soft_Sub.f k a b) r := by
  unfold soft_Sub.f
  exact Ev.call (word_Flip_eq hb) (Ev.bind h (Ev.now _))

noncomputable def cS (F a b : Int) : Int × Int := (av a (flip b), Go.bits .or .u8 F (aP a (flip b)).2)
noncomputable def cM (F a b : Int) : Int × Int := (mv a b, Go.bits .or .u8 F (mP a b).2)
noncomputable def cD (F a b : Int) : Int × Int := ((dP a b).1, Go.bits .or .u8 F (dP a b).2)
theorem cM_ev {F a b : Int} (ha : U a) (hb : U b) : Ev (fun k => soft_Calc_Mul.f k F a b) (cM F a b) := by
  unfold soft_Calc_Mul.f
  exact Ev.bind (mP_ev ha hb) (Ev.call rfl (Ev.now _))
theorem cS_ev {F a b : Int} (ha : U a) (hb : U b) : Ev (fun k => soft_Calc_Sub.f k F a b) (cS F a b) := by
  unfold soft_Calc_Sub.f
  exact Ev.bind (sub_of_add hb (aP_ev ha (U_flip hb))) (Ev.call rfl (Ev.now _))
theorem cD_ev {F a b : Int} (ha : U a) (hb : U b) : Ev (fun k => soft_Calc_Div.f k F a b) (cD F a b) := by
  unfold soft_Calc_Div.f
  exact Ev.bind (dP_ev ha hb) (Ev.call rfl (Ev.now _))
theorem cS_U {F a b : Int} (ha : U a) (hb : U b) : U (cS F a b).1 := av_U ha (U_flip hb)
theorem cM_U {F a b : Int} (ha : U a) (hb : U b) : U (cM F a b).1 := mv_U ha hb
theorem cD_U {F a b : Int} (ha : U a) (hb : U b) : U (cD F a b).1 := (dP_R ha hb).rangeU

/-- There is such a place. -/
def inB (r c s : Int) (d : List Int) (i k : Int) : Prop := 0 ≤ i ∧ i < r ∧ 0 ≤ k ∧ k < c ∧ 0 ≤ s ∧ i * s + k < (d.length : Int)
instance (r c s : Int) (d : List Int) (i k : Int) : Decidable (inB r c s d i k) := by unfold inB; exact inferInstance
/-- What stands there; of what isn't there: no number. -/
def at4 (r c s : Int) (d : List Int) (i k : Int) : Int := if inB r c s d i k then rd d (i * s + k) else 9221120237041090560
def set4 (r c s : Int) (d : List Int) (i k v : Int) : List Int := if inB r c s d i k then d.set (i * s + k).toNat v else d
/-- Sizes at which no index goes beyond a word. -/
def Sm (r c s : Int) : Prop := r ≤ 4096 ∧ c ≤ 4096 ∧ s ≤ 1099511627776

theorem idx_bound {i k r c s : Int} (h : Sm r c s) (h0 : 0 ≤ i) (h1 : i < r) (h2 : 0 ≤ k) (h3 : k < c) (h4 : 0 ≤ s) :
    wrap64 (i * s) = i * s ∧ wrap64 (wrap64 (i * s) + k) = i * s + k ∧ 0 ≤ i * s + k ∧ 0 ≤ i * s ∧ i * s + k ≤ 4503599627374592 := by
  obtain ⟨ha, hb, hc⟩ := h
  obtain ⟨b0, b1⟩ := mul_bound h0 h4 (show i ≤ 4096 by omega) hc
  have e : wrap64 (i * s) = i * s := w64 (by omega) (by omega)
  rw [e]
  exact ⟨rfl, w64 (by omega) (by omega), by omega, b0, by omega⟩
theorem in_eq {r c s : Int} (h : Sm r c s) (d : List Int) (i k : Int) : mat_Matrix_in.f r c s d i k = some (decide (inB r c s d i k)) := by
  unfold mat_Matrix_in.f
  by_cases h0 : i ≥ 0
  · rw [if_pos h0]
    by_cases h1 : i < r
    · rw [if_pos h1]
      by_cases h2 : k ≥ 0
      · rw [if_pos h2]
        by_cases h3 : k < c
        · rw [if_pos h3]
          by_cases h4 : s ≥ 0
          · rw [if_pos h4, (idx_bound h h0 h1 h2 h3 h4).2.1]
            congr 1
            rw [decide_eq_decide]
            exact ⟨fun h5 => ⟨h0, h1, h2, h3, h4, h5⟩, fun h5 => h5.2.2.2.2.2⟩
          · rw [if_neg h4, decide_eq_false (show ¬ inB r c s d i k from fun hb => h4 hb.2.2.2.2.1)]
        · rw [if_neg h3, decide_eq_false (show ¬ inB r c s d i k from fun hb => h3 hb.2.2.2.1)]
      · rw [if_neg h2, decide_eq_false (show ¬ inB r c s d i k from fun hb => h2 hb.2.2.1)]
    · rw [if_neg h1, decide_eq_false (show ¬ inB r c s d i k from fun hb => h1 hb.2.1)]
  · rw [if_neg h0, decide_eq_false (show ¬ inB r c s d i k from fun hb => h0 hb.1)]
theorem at_eq {r c s : Int} (h : Sm r c s) (d : List Int) (i k : Int) : mat_Matrix_At.f r c s d i k = some (at4 r c s d i k) := by
  unfold mat_Matrix_At.f at4
  rw [in_eq h]
  simp only [Option.bind_some]
  by_cases hb : inB r c s d i k
  · obtain ⟨h0, h1, h2, h3, h4, h5⟩ := id hb
    obtain ⟨e1, e2, e3, e4, e5⟩ := idx_bound h h0 h1 h2 h3 h4
    rw [if_pos (decide_eq_true hb), e2, if_pos e3, if_pos h5, if_pos hb]
  · rw [if_neg (by simpa using hb), if_neg hb]
theorem set_eq {r c s : Int} (h : Sm r c s) (d : List Int) (i k v : Int) : mat_Matrix_Set.f r c s d i k v = some (set4 r c s d i k v) := by
  unfold mat_Matrix_Set.f set4
  rw [in_eq h]
  simp only [Option.bind_some]
  by_cases hb : inB r c s d i k
  · obtain ⟨h0, h1, h2, h3, h4, h5⟩ := id hb
    obtain ⟨e1, e2, e3, e4, e5⟩ := idx_bound h h0 h1 h2 h3 h4
    rw [if_pos (decide_eq_true hb), e2, if_pos e3, if_pos h5, if_pos hb]
  · rw [if_neg (by simpa using hb), if_neg hb]
theorem new_eq {R C : Nat} (hR : R ≤ 4096) (hC : C ≤ 4096) : mat_New.f R C = some ((R : Int), (C : Int), (C : Int), List.replicate (R * C) 0) := by
  have hm : R * C ≤ 4096 * 4096 := Nat.mul_le_mul hR hC
  have e : wrap64 ((R : Int) * (C : Int)) = ((R * C : Nat) : Int) := by rw [← Int.natCast_mul]; exact w64 (by omega) (by omega)
  unfold mat_New.f
  rw [if_neg (by omega), if_neg (by omega), if_neg (by omega), if_neg (by omega), e, if_pos (by omega), if_pos (by omega)]
  rfl
theorem rd_set {l : List Int} {n m : Nat} {v : Int} (h : n < l.length) : rd (l.set n v) (m : Int) = if n = m then v else rd l m := by
  unfold rd
  simp only [Int.toNat_natCast, List.getD_eq_getElem?_getD, List.getElem?_set]
  by_cases e : n = m
  · subst e; simp [h]
  · simp [e]
theorem rd_lt {l : List Int} {n : Nat} (h : n < l.length) : rd l (n : Int) = l[n] := by
  unfold rd; simp [List.getD_eq_getElem?_getD, h]
theorem rd_mem {l : List Int} {i : Int} (h0 : 0 ≤ i) (h : i < (l.length : Int)) : rd l i ∈ l := by
  obtain ⟨n, rfl⟩ := Int.eq_ofNat_of_zero_le h0
  rw [rd_lt (by omega)]; exact List.getElem_mem _

/-- The numbers of a matrix of R rows and C columns, row by row. -/
def gat (R C : Nat) (g : Nat → Nat → Int) : List Int := (List.range (R * C)).map fun x => g (x / C) (x % C)
/-- The same, of which the first n stand already. -/
def part (R C : Nat) (g : Nat → Nat → Int) (n : Nat) : List Int := (List.range (R * C)).map fun x => if x < n then g (x / C) (x % C) else 0
theorem gat_length {R C : Nat} {g : Nat → Nat → Int} : (gat R C g).length = R * C := by simp [gat]
theorem part_length {R C n : Nat} {g : Nat → Nat → Int} : (part R C g n).length = R * C := by simp [part]
theorem part_zero {R C : Nat} {g : Nat → Nat → Int} : part R C g 0 = List.replicate (R * C) 0 := by
  apply List.ext_getElem
  · simp [part]
  · intro i h1 h2; simp [part]
theorem part_full {R C : Nat} {g : Nat → Nat → Int} : part R C g (R * C) = gat R C g := by
  apply List.ext_getElem
  · simp [part, gat]
  · intro i h1 h2
    have : i < R * C := by simpa [part] using h1
    simp [part, gat, this]
theorem place_lt {R C i k : Nat} (hi : i < R) (hk : k < C) : i * C + k < R * C := by
  have : (i + 1) * C ≤ R * C := Nat.mul_le_mul_right C hi
  rw [Nat.add_mul] at this; omega
theorem place_div {C i k : Nat} (hk : k < C) : (i * C + k) / C = i := by
  rw [Nat.mul_comm, Nat.mul_add_div (by omega), Nat.div_eq_of_lt hk, Nat.add_zero]
theorem place_mod {C i k : Nat} (hk : k < C) : (i * C + k) % C = k := by
  rw [Nat.mul_comm, Nat.mul_add_mod, Nat.mod_eq_of_lt hk]
theorem part_set {R C i k : Nat} {g : Nat → Nat → Int} (hi : i < R) (hk : k < C) : (part R C g (i * C + k)).set (i * C + k) (g i k) = part R C g (i * C + k + 1) := by
  apply List.ext_getElem
  · simp [part]
  · intro x h1 h2
    simp only [List.getElem_set, part, List.getElem_map, List.getElem_range]
    by_cases e : i * C + k = x
    · subst e
      rw [if_pos rfl, if_pos (by omega), place_div hk, place_mod hk]
    · rw [if_neg e]
      by_cases e2 : x < i * C + k
      · rw [if_pos e2, if_pos (by omega)]
      · rw [if_neg e2, if_neg (by omega)]
theorem inB_dense {R C : Nat} {d : List Int} (hd : d.length = R * C) {i k : Nat} (hi : i < R) (hk : k < C) : inB R C C d i k := by
  have := place_lt hi hk
  refine ⟨by omega, by omega, by omega, by omega, by omega, ?_⟩
  rw [hd, ← Int.natCast_mul, ← Int.natCast_add]; omega
theorem set_part {R C i k : Nat} {g : Nat → Nat → Int} (hi : i < R) (hk : k < C) : set4 R C C (part R C g (i * C + k)) i k (g i k) = part R C g (i * C + k + 1) := by
  unfold set4
  rw [if_pos (inB_dense part_length hi hk)]
  have e : ((i : Int) * (C : Int) + (k : Int)).toNat = i * C + k := by rw [← Int.natCast_mul, ← Int.natCast_add]; rfl
  rw [e]; exact part_set hi hk
theorem at_dense {R C : Nat} {d : List Int} (hd : d.length = R * C) {i k : Nat} (hi : i < R) (hk : k < C) : at4 R C C d i k = rd d ((i * C + k : Nat) : Int) := by
  unfold at4
  rw [if_pos (inB_dense hd hi hk)]; push_cast; rfl
theorem rd_gat {R C i k : Nat} {g : Nat → Nat → Int} (hi : i < R) (hk : k < C) : rd (gat R C g) ((i * C + k : Nat) : Int) = g i k := by
  have := place_lt hi hk
  rw [rd_lt (by rw [gat_length]; exact this)]
  simp [gat, place_div hk, place_mod hk]
theorem at_gat {R C i k : Nat} {g : Nat → Nat → Int} (hi : i < R) (hk : k < C) : at4 R C C (gat R C g) i k = g i k := by
  rw [at_dense gat_length hi hk, rd_gat hi hk]
theorem row_end {i C : Nat} : i * C + C = (i + 1) * C := by rw [Nat.add_mul]; omega
theorem Sm.nat {R C : Nat} (hR : R ≤ 4096) (hC : C ≤ 4096) : Sm R C C := ⟨by omega, by omega, by omega⟩
theorem at_U {r c s : Int} {d : List Int} (hd : ∀ x ∈ d, U x) (i k : Int) : U (at4 r c s d i k) := by
  unfold at4
  split
  · rename_i h
    obtain ⟨h0, h1, h2, h3, h4, h5⟩ := h
    have := Int.mul_nonneg h0 h4
    exact hd _ (rd_mem (by omega) h5)
  · exact ⟨by decide, by decide⟩

/-- A list of so many words. -/
def Words (n : Nat) (d : List Int) : Prop := d.length = n ∧ ∀ x ∈ d, U x
theorem Words.set {n : Nat} {d : List Int} (h : Words n d) (i : Nat) {v : Int} (hv : U v) : Words n (d.set i v) := by
  refine ⟨by rw [List.length_set]; exact h.1, fun x hx => ?_⟩
  rcases List.mem_or_eq_of_mem_set hx with hx | hx
  · exact h.2 x hx
  · rw [hx]; exact hv
theorem Words.set4 {n : Nat} {d : List Int} (h : Words n d) (r c s i k : Int) {v : Int} (hv : U v) : Words n (set4 r c s d i k v) := by
  unfold Gim.set4
  split
  · exact h.set _ hv
  · exact h
theorem Words.zeros (n : Nat) : Words n (List.replicate n 0) := ⟨List.length_replicate, fun x hx => by rw [(List.mem_replicate.mp hx).2]; exact ⟨by decide, by decide⟩⟩

/-- Sizes that can't be. -/
def badSize (r c s : Int) : Prop := r < 0 ∨ 4096 < r ∨ c < 0 ∨ 4096 < c ∨ s < c ∨ 1099511627776 < s
instance (r c s : Int) : Decidable (badSize r c s) := by unfold badSize; exact inferInstance
def isMat (r c s : Int) (d : List Int) : Prop := ¬ badSize r c s ∧ (r = 0 ∨ c = 0 ∨ (r - 1) * s + c ≤ (d.length : Int))
instance (r c s : Int) (d : List Int) : Decidable (isMat r c s d) := by unfold isMat; exact inferInstance

theorem check_j0_true (r c s : Int) (d : List Int) : Ev (fun k => mat_Matrix_Check.j0 k true r c s d) 4 := by
  refine Ev.succ ?_
  simp only [mat_Matrix_Check.j0]
  exact Ev.pos trivial (Ev.now _)
theorem check_j1 {r c s : Int} (h : ¬ badSize r c s) (d : List Int) (b : Bool) (hb : b = decide (r = 0 ∨ c = 0)) :
    Ev (fun k => mat_Matrix_Check.j1 k b r c s d) (if isMat r c s d then 0 else 4) := by
  unfold badSize at h
  refine Ev.succ ?_
  simp only [mat_Matrix_Check.j1]
  by_cases h0 : r = 0 ∨ c = 0
  · rw [decide_eq_true h0] at hb
    refine Ev.pos hb ?_
    rw [if_pos (show isMat r c s d from ⟨h, by omega⟩)]
    exact Ev.now _
  · rw [decide_eq_false h0] at hb
    refine Ev.neg (by rw [hb]; decide) ?_
    obtain ⟨b0, b1⟩ := mul_bound (a := r - 1) (b := s) (m := 4096) (n := 1099511627776) (by omega) (by omega) (by omega) (by omega)
    rw [w64 (x := r - 1) (by omega) (by omega), w64 (x := (r - 1) * s) (by omega) (by omega), w64 (by omega) (by omega)]
    by_cases h1 : (r - 1) * s + c > (d.length : Int)
    · refine Ev.pos h1 ?_
      rw [if_neg (show ¬ isMat r c s d from fun hh => by have := hh.2; omega)]
      exact Ev.now _
    · refine Ev.neg h1 ?_
      rw [if_pos (show isMat r c s d from ⟨h, by omega⟩)]
      exact Ev.now _
theorem check_j0 {r c s : Int} (h : ¬ badSize r c s) (d : List Int) : Ev (fun k => mat_Matrix_Check.j0 k false r c s d) (if isMat r c s d then 0 else 4) := by
  refine Ev.succ ?_
  simp only [mat_Matrix_Check.j0]
  refine Ev.neg (by decide) ?_
  by_cases h0 : r = 0
  · exact Ev.pos h0 (check_j1 h d true (by rw [decide_eq_true (.inl h0)]))
  · refine Ev.neg h0 (check_j1 h d _ ?_)
    rw [Bool.eq_iff_iff, beq_iff_eq, decide_eq_true_eq]; omega
/-- Check: 0 of a matrix, 4 of all else. -/
theorem check_ev (r c s : Int) (d : List Int) : Ev (fun k => mat_Matrix_Check.f k r c s d) (if isMat r c s d then 0 else 4) := by
  have hbad : badSize r c s → Ev (fun k => mat_Matrix_Check.j0 k true r c s d) (if isMat r c s d then 0 else 4) := by
    intro hb
    rw [if_neg (fun hh => hh.1 hb)]
    exact check_j0_true r c s d
  unfold mat_Matrix_Check.f
  unfold badSize at hbad
  by_cases h1 : r < 0
  · exact Ev.pos h1 (hbad (by omega))
  · refine Ev.neg h1 ?_
    by_cases h2 : r > 4096
    · exact Ev.pos h2 (hbad (by omega))
    · refine Ev.neg h2 ?_
      by_cases h3 : c < 0
      · exact Ev.pos h3 (hbad (by omega))
      · refine Ev.neg h3 ?_
        by_cases h4 : c > 4096
        · exact Ev.pos h4 (hbad (by omega))
        · refine Ev.neg h4 ?_
          by_cases h5 : s < c
          · exact Ev.pos h5 (hbad (by omega))
          · refine Ev.neg h5 ?_
            by_cases h6 : s > 1099511627776
            · rw [decide_eq_true h6]; exact hbad (by omega)
            · rw [decide_eq_false h6]
              exact check_j0 (by unfold badSize; omega) d
theorem isMat_dense {R C : Nat} (hR : R ≤ 4096) (hC : C ≤ 4096) {d : List Int} (hd : d.length = R * C) : isMat R C C d := by
  refine ⟨by unfold badSize; omega, ?_⟩
  by_cases h0 : R = 0
  · left; omega
  · right; right
    obtain ⟨q, rfl⟩ : ∃ q, R = q + 1 := ⟨R - 1, by omega⟩
    rw [hd]
    have e : ((q + 1 : Nat) : Int) - 1 = (q : Int) := by omega
    rw [e, ← Int.natCast_mul, ← Int.natCast_add, ← row_end]; omega
theorem check_dense {R C : Nat} (hR : R ≤ 4096) (hC : C ≤ 4096) {d : List Int} (hd : d.length = R * C) : Ev (fun k => mat_Matrix_Check.f k R C C d) 0 := by
  have := check_ev R C C d
  rwa [if_pos (isMat_dense hR hC hd)] at this
end Gim
namespace Gim
open Go Go.RowKit Go.Proofs.YtikebaljjclbnaaDoorW.PrintWords Go.Proofs.YtikebaljjclbnaaDoorW.PrintLast Go.Proofs.YtikebaljjclbnaaDoorW.PrintMore Go.Proofs.YtikebaljjclbnaaDoor.F
set_option linter.unusedVariables false
set_option linter.unusedSectionVars false

/-- One number less a product. -/
noncomputable def tStep (A : Nat → Nat → Int) (i k : Nat) (s : List Int × Int) : List Int × Int :=
  (s.1.set i (cS (cM s.2 (A i k) (rd s.1 (k : Int))).2 (rd s.1 (i : Int)) (cM s.2 (A i k) (rd s.1 (k : Int))).1).1,
    (cS (cM s.2 (A i k) (rd s.1 (k : Int))).2 (rd s.1 (i : Int)) (cM s.2 (A i k) (rd s.1 (k : Int))).1).2)
noncomputable def tRow (A : Nat → Nat → Int) (i : Nat) : Nat → Nat → List Int × Int → List Int × Int
  | _, 0, s => s
  | lo, m + 1, s => tRow A i (lo + 1) m (tStep A i lo s)
noncomputable def tDiv (A : Nat → Nat → Int) (one : Bool) (i : Nat) (s : List Int × Int) : List Int × Int :=
  if one = true then s else (s.1.set i (cD s.2 (rd s.1 (i : Int)) (A i i)).1, (cD s.2 (rd s.1 (i : Int)) (A i i)).2)
def rowOf (n : Nat) (up : Bool) (s : Nat) : Nat := if up = true then n - 1 - s else s
def loOf (up : Bool) (i : Nat) : Nat := if up = true then i + 1 else 0
def cntOf (n : Nat) (up : Bool) (i : Nat) : Nat := if up = true then n - (i + 1) else i
noncomputable def tOne (n : Nat) (A : Nat → Nat → Int) (up one : Bool) (s : Nat) (x : List Int × Int) : List Int × Int :=
  tDiv A one (rowOf n up s) (tRow A (rowOf n up s) (loOf up (rowOf n up s)) (cntOf n up (rowOf n up s)) x)
noncomputable def tRun (n : Nat) (A : Nat → Nat → Int) (up one : Bool) : Nat → Nat → List Int × Int → List Int × Int
  | _, 0, x => x
  | s, m + 1, x => tRun n A up one (s + 1) m (tOne n A up one s x)
theorem rowOf_lt {n : Nat} {up : Bool} {s : Nat} (h : s < n) : rowOf n up s < n := by unfold rowOf; split <;> omega
section
variable {n : Nat} {A : Nat → Nat → Int} (hA : ∀ i k, U (A i k))
include hA
theorem rdU {l : List Int} (hl : Words n l) {i : Nat} (hi : i < n) : U (rd l (i : Int)) := hl.2 _ (rd_mem (by omega) (by rw [hl.1]; omega))
theorem tStep_W {i k : Nat} (hi : i < n) (hk : k < n) {s : List Int × Int} (h : Words n s.1) : Words n (tStep A i k s).1 :=
  h.set _ (cS_U (rdU hA h hi) (cM_U (hA i k) (rdU hA h hk)))
theorem tRow_W {i : Nat} (hi : i < n) : ∀ m lo (s : List Int × Int), lo + m ≤ n → Words n s.1 → Words n (tRow A i lo m s).1
  | 0, lo, s, _, h => h
  | m + 1, lo, s, hm, h => tRow_W hi m (lo + 1) _ (by omega) (tStep_W hA hi (by omega) h)
theorem tDiv_W {i : Nat} (hi : i < n) {one : Bool} {s : List Int × Int} (h : Words n s.1) : Words n (tDiv A one i s).1 := by
  unfold tDiv
  split
  · exact h
  · exact h.set _ (cD_U (rdU hA h hi) (hA i i))
theorem tOne_W {up one : Bool} {s : Nat} (hs : s < n) {x : List Int × Int} (h : Words n x.1) : Words n (tOne n A up one s x).1 := by
  have hi := rowOf_lt (up := up) hs
  refine tDiv_W hA hi (tRow_W hA hi _ _ _ ?_ h)
  unfold loOf cntOf
  split <;> omega
theorem tRun_W {up one : Bool} : ∀ m s (x : List Int × Int), s + m ≤ n → Words n x.1 → Words n (tRun n A up one s m x).1
  | 0, s, x, _, h => h
  | m + 1, s, x, hm, h => tRun_W m (s + 1) _ (by omega) (tOne_W hA (by omega) h)
end
section
variable {n : Nat} (hn : n ≤ 100) {d : List Int} (wd : Words (n * n) d)
include hn wd
theorem at_UU (i k : Nat) : U (at4 n n n d i k) := at_U wd.2 _ _
theorem trsv_l2 {up one : Bool} {i hi s : Nat} (h1 : i < n) (h2 : hi ≤ n) : ∀ m lo (l : List Int) (F : Int), lo + m = hi → Words n l → ∀ {r : List Int × Int × Int},
    Ev (fun K => solve_Trsv.l2 K up one n (tRow (fun i k => at4 n n n d i k) i lo m (l, F)).1 i hi hi n s (tRow (fun i k => at4 n n n d i k) i lo m (l, F)).2 n n n d) r →
    Ev (fun K => solve_Trsv.l2 K up one n l i hi lo n s F n n n d) r := by
  intro m
  induction m with
  | zero =>
    intro lo l F hm hl r h
    obtain rfl : lo = hi := by omega
    exact h
  | succ m ih =>
    intro lo l F hm hl r h
    have lk : lo < n := by omega
    have hA := at_UU hn wd
    have e1 := cM_ev (F := F) (hA i lo) (rdU hA hl lk)
    have e2 := cS_ev (F := (cM F (at4 n n n d i lo) (rd l (lo : Int))).2) (rdU hA hl h1) (cM_U (F := F) (hA i lo) (rdU hA hl lk))
    have W := tStep_W hA (s := (l, F)) h1 lk hl
    have hh := ih (lo + 1) _ _ (by omega) W h
    refine Ev.succ ?_
    simp only [solve_Trsv.l2]
    rw [w64 (x := (lo : Int) + 1) (by omega) (by omega), at_eq (Sm.nat (by omega) (by omega))]
    have hlen := hl.1
    exact Ev.pos (by omega) (Ev.pos (by omega) (Ev.pos (by omega) (Ev.call rfl (Ev.pos (by omega) (Ev.pos (by omega) (Ev.bind e1 (Ev.bind e2 hh)))))))
theorem trsv_l1 {up one : Bool} : ∀ m s (l : List Int) (F : Int), s + m = n → Words n l →
    Ev (fun K => solve_Trsv.l1 K up one n l n s F n n n d) ((tRun n (fun i k => at4 n n n d i k) up one s m (l, F)).1, 0, (tRun n (fun i k => at4 n n n d i k) up one s m (l, F)).2) := by
  intro m
  induction m with
  | zero =>
    intro s l F hm hl
    refine Ev.succ ?_
    simp only [solve_Trsv.l1]
    exact Ev.neg (by omega) (Ev.now _)
  | succ m ih =>
    intro s l F hm hl
    have hA := at_UU hn wd
    have hs : s < n := by omega
    have hi := rowOf_lt (up := up) hs
    have W1 : Words n (tRow (fun i k => at4 n n n d i k) (rowOf n up s) (loOf up (rowOf n up s)) (cntOf n up (rowOf n up s)) (l, F)).1 := by
      refine tRow_W hA hi _ _ _ ?_ hl
      unfold loOf cntOf
      split <;> omega
    have W2 : Words n (tOne n (fun i k => at4 n n n d i k) up one s (l, F)).1 := tOne_W hA hs hl
    have hh := ih (s + 1) (tOne n (fun i k => at4 n n n d i k) up one s (l, F)).1 (tOne n (fun i k => at4 n n n d i k) up one s (l, F)).2 (by omega) W2
    have fin_ : Ev (fun K => solve_Trsv.j3 K up one n l (rowOf n up s : Nat) n s F n n n d) ((tRun n (fun i k => at4 n n n d i k) up one s (m + 1) (l, F)).1, 0, (tRun n (fun i k => at4 n n n d i k) up one s (m + 1) (l, F)).2) := by
      have go : Ev (fun K => solve_Trsv.l2 K up one n l (rowOf n up s : Nat) (loOf up (rowOf n up s) + cntOf n up (rowOf n up s) : Nat) (loOf up (rowOf n up s) : Nat) n s F n n n d)
          ((tRun n (fun i k => at4 n n n d i k) up one s (m + 1) (l, F)).1, 0, (tRun n (fun i k => at4 n n n d i k) up one s (m + 1) (l, F)).2) := by
        refine trsv_l2 hn wd hi ?_ _ _ l F rfl hl ?_
        · unfold loOf cntOf; split <;> omega
        · refine Ev.succ ?_
          simp only [solve_Trsv.l2]
          rw [w64 (x := (s : Int) + 1) (by omega) (by omega)]
          refine Ev.neg (by omega) ?_
          have hlen := W1.1
          cases one
          · rw [at_eq (Sm.nat (by omega) (by omega))]
            refine Ev.neg (by simp) (Ev.pos (by omega) (Ev.pos (by omega) (Ev.call rfl (Ev.bind (cD_ev (rdU hA W1 hi) (hA _ _)) hh))))
          · exact Ev.pos rfl hh
      refine Ev.succ ?_
      simp only [solve_Trsv.j3]
      cases up
      · refine Ev.neg (by simp) (Ev.call rfl (Ev.call rfl ?_))
        have e : loOf false (rowOf n false s) + cntOf n false (rowOf n false s) = rowOf n false s := by simp [loOf, cntOf]
        rw [e] at go
        exact go
      · refine Ev.pos (by trivial) (Ev.call rfl (Ev.call rfl ?_))
        have e : loOf true (rowOf n true s) + cntOf n true (rowOf n true s) = n := by simp only [loOf, cntOf, if_true]; omega
        rw [e] at go
        have e2 : wrap64 (((rowOf n true s : Nat) : Int) + 1) = ((loOf true (rowOf n true s) : Nat) : Int) := by rw [w64 (by omega) (by omega)]; simp only [loOf, if_true]; omega
        show Ev (fun K => solve_Trsv.l2 K true one n l (rowOf n true s : Nat) n (wrap64 (((rowOf n true s : Nat) : Int) + 1)) n s F n n n d) _
        rw [e2]
        exact go
    refine Ev.succ ?_
    simp only [solve_Trsv.l1]
    refine Ev.pos (by omega) ?_
    cases up
    · exact Ev.neg (by simp) fin_
    · refine Ev.pos rfl ?_
      have e : wrap64 (wrap64 ((n : Int) - 1) - (s : Int)) = ((rowOf n true s : Nat) : Int) := by
        rw [w64 (x := (n : Int) - 1) (by omega) (by omega), w64 (by omega) (by omega)]
        simp only [rowOf, if_true]
        omega
      rw [e]
      exact fin_
/-- Where a number stands that can't be divided by. -/
def bad (n : Nat) (d : List Int) (one : Bool) (i : Nat) : Prop := one = false ∧ mag (at4 n n n d i i) = 0
theorem trsv_l0_ok {up one : Bool} {b : List Int} {F : Int} {r : List Int × Int × Int} : ∀ m i, i + m = n → (∀ j, i ≤ j → j < n → ¬ bad n d one j) →
    Ev (fun K => solve_Trsv.l0 K up one b n n n F n n n d) r → Ev (fun K => solve_Trsv.l0 K up one b n n i F n n n d) r := by
  intro m
  induction m with
  | zero => intro i h1 h2 h; obtain rfl : i = n := by omega
            exact h
  | succ m ih =>
    intro i h1 h2 h
    have hh := ih (i + 1) (by omega) (fun j a c => h2 j (by omega) c) h
    have nb := h2 i (by omega) (by omega)
    refine Ev.succ ?_
    simp only [solve_Trsv.l0]
    rw [w64 (x := (i : Int) + 1) (by omega) (by omega), at_eq (Sm.nat (by omega) (by omega))]
    refine Ev.pos (by omega) ?_
    cases one
    · refine Ev.neg (by simp) (Ev.call rfl (Ev.bind (word_Kind_ev (at_UU hn wd i i)) (Ev.neg ?_ hh)))
      intro k1
      exact nb ⟨rfl, kind1.mp k1⟩
    · exact Ev.pos rfl hh
/-- WHAT A TRIANGLE, TIMES THAT, IS A LIST. -/
theorem trsv_ev {up one : Bool} {b : List Int} (wb : Words n b) (F : Int) (h : ∀ j, j < n → ¬ bad n d one j) :
    Ev (fun K => solve_Trsv.f K F n n n d up one b) ((tRun n (fun i k => at4 n n n d i k) up one 0 n (b, F)).1, 0, (tRun n (fun i k => at4 n n n d i k) up one 0 n (b, F)).2) := by
  have hlen := wb.1
  have ne : ((n : Int) != (b.length : Int)) = false := by rw [hlen]; simp
  unfold solve_Trsv.f
  refine Ev.bind (check_dense (by omega) (by omega) wd.1) (Ev.pos rfl (Ev.pos rfl (Ev.succ ?_)))
  simp only [solve_Trsv.j0]
  rw [ne, hlen]
  refine Ev.neg (by simp) (trsv_l0_ok hn wd n 0 (by omega) (fun j _ c => h j c) (Ev.succ ?_))
  simp only [solve_Trsv.l0]
  skip
  refine Ev.neg (by omega) (Ev.pos (by omega) ?_)
  exact trsv_l1 hn wd n 0 b F (by omega) wb
end
end Gim
namespace Gim
open Go Go.RowKit Go.Proofs.YtikebaljjclbnaaDoorW.PrintWords Go.Proofs.YtikebaljjclbnaaDoorW.PrintLast Go.Proofs.YtikebaljjclbnaaDoorW.PrintMore Go.Proofs.YtikebaljjclbnaaDoor.F
set_option linter.unusedVariables false

noncomputable def dS (x y : Nat → Int) : Nat → Int
  | 0 => 0
  | n + 1 => av (dS x y n) (mv (x n) (y n))
noncomputable def dF (x y : Nat → Int) (i : Nat) : BitVec 8 := mf (x i) (y i) ||| af (dS x y i) (mv (x i) (y i))

theorem keep {a : Int} (ha : U a) (fa : fin a) {x : Rat} {z : Bool} {r f : Int} (h : Rd x z r f) (hx : x = val a) (hz : mag a = 0 → z = neg a) : r = a ∧ f = 0 := by
  by_cases h0 : mag a = 0
  · have hx0 : x = 0 := by rw [hx]; exact val_zero_iff.mpr h0
    obtain ⟨e, hf⟩ := h.zero hx0
    refine ⟨?_, hf⟩
    rw [e, hz h0]
    have := signed_eta ha
    rw [h0] at this
    exact this
  · subst hx
    have := h.unique (Rd.self ha fa h0 z)
    exact this
theorem mulRd {a b r f : Int} (fa : fin a) (fb : fin b) (h : MulR a b r f) : Rd (val a * val b) (neg a != neg b) r f := by
  unfold MulR at h
  have n1 := not_inf fa
  have n2 := not_inf fb
  have hz : infZero a b = false := by unfold infZero; simp [n1, n2]
  rw [if_neg (by rw [fin_nan fa, fin_nan fb]; decide), if_neg (by rw [hz]; decide), if_neg (by rintro (h | h) <;> contradiction)] at h
  exact h
theorem addRd {a b r f : Int} (fa : fin a) (fb : fin b) (h : AddR a b r f) : Rd (val a + val b) (neg a && neg b) r f := (AddR.fin fa fb).mp h
theorem mv_Rd {a b : Int} (ha : U a) (hb : U b) (fa : fin a) (fb : fin b) : Rd (val a * val b) (neg a != neg b) (mv a b) (mP a b).2 := mulRd fa fb (mP_R ha hb)
theorem av_Rd {a b : Int} (ha : U a) (hb : U b) (fa : fin a) (fb : fin b) : Rd (val a + val b) (neg a && neg b) (av a b) (aP a b).2 := addRd fa fb (aP_R ha hb)

/-- Half of the last place. -/
def ulp : Rat := pw (-53)
theorem ulp_pos : 0 < ulp := pw_pos _
theorem ulp_half (p : Rat) : 2 * (ulp * (((4503599627370496 : Int) : Rat) * p)) = p := by
  have h := pw_neg_mul 53
  have h2 : pw 53 = ((9007199254740992 : Int) : Rat) := by rw [pw_p2 (by decide)]; rfl
  rw [h2] at h
  have h3 : ((9007199254740992 : Int) : Rat) = 2 * ((4503599627370496 : Int) : Rat) := by decide +kernel
  rw [h3] at h
  unfold ulp
  have e : 2 * (pw (-53) * (((4503599627370496 : Int) : Rat) * p)) = (pw (-53) * (2 * ((4503599627370496 : Int) : Rat))) * p := by grind
  rw [e, h, Rat.one_mul]
theorem RB.err {x : Rat} {m f : Int} (h : RB x m f) (f3 : f ≠ 3) (f5 : f ≠ 5) : m < INF ∧ rabs (vm m - x) ≤ ulp * x ∧ rabs (vm m - x) ≤ ulp * vm m := by
  obtain ⟨q, n, hr, e1, e2⟩ := h.ex
  have hx := hr.pos
  have up := ulp_pos
  by_cases c : enc q n < INF
  · rw [if_pos c] at e1 e2
    subst e1
    rw [hr.val_enc]
    by_cases c2 : x = (n : Rat) * pw q
    · rw [← c2]
      have z : rabs (x - x) = 0 := by unfold rabs; grind
      have := Rat.mul_nonneg (Rat.le_of_lt up) (Rat.le_of_lt hx)
      rw [z]
      exact ⟨c, this, this⟩
    · rw [if_neg c2] at e2
      by_cases c3 : x < pw (-1022)
      · rw [if_pos c3] at e2; exact absurd e2 f3
      · have p := pw_pos q
        have lo : ((4503599627370496 : Int) : Rat) * pw q ≤ x := by
          rcases hr.lo with h1 | h1
          · subst h1
            have e : ((4503599627370496 : Int) : Rat) * pw (-1074) = pw (-1022) := by
              have := pw_addNat (-1074) 52
              rw [show (-1074 : Int) + (52 : Nat) = -1022 from by decide] at this
              rw [this]
              rfl
            rw [e]
            grind
          · exact h1
        have hn := hr.n_ge lo
        have hnp : ((4503599627370496 : Int) : Rat) * pw q ≤ (n : Rat) * pw q := Rat.mul_le_mul_of_nonneg_right (Rat.intCast_le_intCast.mpr hn) (Rat.le_of_lt p)
        have k1 := Rat.mul_le_mul_of_nonneg_left lo (Rat.le_of_lt up)
        have k2 := Rat.mul_le_mul_of_nonneg_left hnp (Rat.le_of_lt up)
        have k3 := ulp_half (pw q)
        have n1 := hr.near1
        have n2 := hr.near2
        push_cast at n1 n2
        have b : rabs ((n : Rat) * pw q - x) ≤ ulp * (((4503599627370496 : Int) : Rat) * pw q) := by
          generalize ulp * (((4503599627370496 : Int) : Rat) * pw q) = w at k3
          unfold rabs
          grind
        exact ⟨c, Rat.le_trans b k1, Rat.le_trans b k2⟩
  · rw [if_neg c] at e2
    exact absurd e2 f5
theorem rabs_zero : rabs 0 = 0 := by unfold rabs; grind
theorem rabs_add (x y : Rat) : rabs (x + y) ≤ rabs x + rabs y := by unfold rabs; grind
theorem Rd.err {x : Rat} {z : Bool} {r f : Int} (h : Rd x z r f) (f3 : f ≠ 3) (f5 : f ≠ 5) : fin r ∧ rabs (val r - x) ≤ ulp * rabs x ∧ rabs (val r - x) ≤ ulp * rabs (val r) := by
  by_cases hx : x = 0
  · obtain ⟨e, _⟩ := h.zero hx
    have m0 : mag r = 0 := by rw [e]; exact mag_signed (by decide) (by decide)
    have v : val r = 0 := val_zero_iff.mpr m0
    refine ⟨by unfold fin; rw [m0]; decide, ?_, ?_⟩
    · rw [v, hx]
      have : (0 : Rat) - 0 = 0 := by grind
      rw [this, rabs_zero]
      grind
    · rw [v, hx]
      have : (0 : Rat) - 0 = 0 := by grind
      rw [this, rabs_zero]
      grind
  · obtain ⟨m, h1, rfl⟩ := h.num hx
    obtain ⟨e1, e2, e3⟩ := h1.err f3 f5
    have hr := h1.range
    have hI : INF < 9223372036854775808 := by decide
    have vn := vm_nonneg (m := m) hr.1
    rw [val_signed hr.1 (by omega)]
    refine ⟨by unfold fin; rw [mag_signed hr.1 (by omega)]; exact e1, ?_, ?_⟩
    · by_cases c : x < 0
      · rw [if_pos (by simpa using c)]
        have a : rabs (-vm m - x) = rabs (vm m - rabs x) := by
          have : rabs x = -x := by unfold rabs; rw [if_pos c]
          rw [this, ← rabs_neg]
          congr 1
          grind
        rw [a]; exact e2
      · rw [if_neg (by simpa using c)]
        have : rabs x = x := by unfold rabs; rw [if_neg c]
        rw [this] at e2 ⊢
        exact e2
    · by_cases c : x < 0
      · rw [if_pos (by simpa using c)]
        have a : rabs (-vm m - x) = rabs (vm m - rabs x) := by
          have : rabs x = -x := by unfold rabs; rw [if_pos c]
          rw [this, ← rabs_neg]
          congr 1
          grind
        have b : rabs (-vm m) = vm m := by rw [rabs_neg]; unfold rabs; grind
        rw [a, b]; exact e3
      · rw [if_neg (by simpa using c)]
        have : rabs x = x := by unfold rabs; rw [if_neg c]
        have b : rabs (vm m) = vm m := by unfold rabs; grind
        rw [b]
        rw [this] at e3
        exact e3
/-- A sum of rational numbers, from one place on. -/
def rs (g : Nat → Rat) : Nat → Nat → Rat
  | _, 0 => 0
  | lo, m + 1 => g lo + rs g (lo + 1) m
theorem rs_nonneg {g : Nat → Rat} (h : ∀ k, 0 ≤ g k) : ∀ m lo, 0 ≤ rs g lo m
  | 0, _ => by simp [rs]
  | m + 1, lo => by
    have := rs_nonneg h m (lo + 1)
    have := h lo
    simp only [rs]
    grind
theorem rs_rabs (g : Nat → Rat) : ∀ m lo, rabs (rs g lo m) ≤ rs (fun k => rabs (g k)) lo m
  | 0, _ => by simp only [rs]; rw [rabs_zero]; grind
  | m + 1, lo => by
    have := rs_rabs g m (lo + 1)
    simp only [rs]
    exact Rat.le_trans (rabs_add _ _) (by grind)
/-- A ROW: what was taken off step by step, and what is left, come near to where it began. -/
theorem row_err {p ph s : Nat → Rat} {t T : Rat} : ∀ (m lo : Nat), m ≤ 12 → (∀ j, lo ≤ j → j < lo + m → rabs (ph j - p j) ≤ ulp * rabs (p j) ∧ rabs (s (j + 1) - (s j - ph j)) ≤ ulp * rabs (s (j + 1))) →
    rabs (t - s (lo + m)) ≤ ulp * rabs t → rabs t + rs (fun k => rabs (p k)) lo m ≤ T →
    rabs (s lo - (t + rs p lo m)) ≤ (1 + (m : Rat) * (9 / 4)) * (ulp * T) := by
  intro m
  induction m with
  | zero =>
    intro lo _ _ h1 h2
    simp only [rs, Nat.add_zero] at h1 h2 ⊢
    have a : rabs (s lo - (t + 0)) = rabs (t - s lo) := by rw [← rabs_neg]; congr 1; grind
    rw [a]
    have : ulp * rabs t ≤ ulp * T := Rat.mul_le_mul_of_nonneg_left (by grind) (Rat.le_of_lt ulp_pos)
    have e : (1 + ((0 : Nat) : Rat) * (9 / 4)) * (ulp * T) = ulp * T := by
      have : ((0 : Nat) : Rat) = 0 := rfl
      rw [this]; grind
    rw [e]
    exact Rat.le_trans h1 this
  | succ m ih =>
    intro lo hm hk h1 h2
    simp only [rs] at h2 ⊢
    obtain ⟨e1, e2⟩ := hk lo (by omega) (by omega)
    have np := rs_nonneg (g := fun k => rabs (p k)) (fun k => rabs_nonneg _) m (lo + 1)
    have pn := rabs_nonneg (p lo)
    have tn := rabs_nonneg t
    have E := ih (lo + 1) (by omega) (fun j a b => hk j (by omega) (by omega)) (by rw [show lo + 1 + m = lo + (m + 1) from by omega]; exact h1) (by grind)
    have T0 : 0 ≤ T := by grind
    have sum := rs_rabs p m (lo + 1)
    -- what is left is no greater than all, and a little
    have sb : rabs (s (lo + 1)) ≤ rabs (s (lo + 1) - (t + rs p (lo + 1) m)) + T := by
      have a := rabs_add (s (lo + 1) - (t + rs p (lo + 1) m)) (t + rs p (lo + 1) m)
      have b := rabs_add t (rs p (lo + 1) m)
      have c : s (lo + 1) - (t + rs p (lo + 1) m) + (t + rs p (lo + 1) m) = s (lo + 1) := by grind
      rw [c] at a
      grind
    have u0 := ulp_pos
    have uT : 0 ≤ ulp * T := Rat.mul_nonneg (Rat.le_of_lt u0) T0
    have us : ulp * rabs (s (lo + 1)) ≤ ulp * (rabs (s (lo + 1) - (t + rs p (lo + 1) m)) + T) := Rat.mul_le_mul_of_nonneg_left sb (Rat.le_of_lt u0)
    have ue : ulp * rabs (s (lo + 1) - (t + rs p (lo + 1) m)) ≤ ulp * ((1 + (m : Rat) * (9 / 4)) * (ulp * T)) := Rat.mul_le_mul_of_nonneg_left E (Rat.le_of_lt u0)
    have mb : (m : Rat) ≤ 12 := by exact_mod_cast (show m ≤ 12 by omega)
    have m0 : (0 : Rat) ≤ (m : Rat) := by exact_mod_cast Nat.zero_le m
    have small : ulp * (1 + (m : Rat) * (9 / 4)) ≤ 1 / 4 := by
      have a : ulp * (1 + (m : Rat) * (9 / 4)) ≤ ulp * 28 := Rat.mul_le_mul_of_nonneg_left (by grind) (Rat.le_of_lt u0)
      have b : ulp * 28 ≤ 1 / 4 := by decide +kernel
      exact Rat.le_trans a b
    have q : ulp * ((1 + (m : Rat) * (9 / 4)) * (ulp * T)) ≤ 1 / 4 * (ulp * T) := by
      have := Rat.mul_le_mul_of_nonneg_right small uT
      rw [← Rat.mul_assoc]
      exact this
    have up : ulp * rabs (p lo) ≤ ulp * T := Rat.mul_le_mul_of_nonneg_left (by grind) (Rat.le_of_lt u0)
    -- what comes of all
    have fin_ : rabs (s lo - (t + (p lo + rs p (lo + 1) m))) ≤ rabs (s (lo + 1) - (t + rs p (lo + 1) m)) + rabs (s (lo + 1) - (s lo - ph lo)) + rabs (ph lo - p lo) := by
      have a := rabs_add (s (lo + 1) - (t + rs p (lo + 1) m)) (-(s (lo + 1) - (s lo - ph lo)) + (ph lo - p lo))
      have b := rabs_add (-(s (lo + 1) - (s lo - ph lo))) (ph lo - p lo)
      rw [rabs_neg] at b
      have c : s (lo + 1) - (t + rs p (lo + 1) m) + (-(s (lo + 1) - (s lo - ph lo)) + (ph lo - p lo)) = s lo - (t + (p lo + rs p (lo + 1) m)) := by grind
      rw [c] at a
      grind
    have cast : ((m + 1 : Nat) : Rat) = (m : Rat) + 1 := by push_cast; rfl
    rw [cast]
    have dist : ulp * (rabs (s (lo + 1) - (t + rs p (lo + 1) m)) + T) = ulp * rabs (s (lo + 1) - (t + rs p (lo + 1) m)) + ulp * T := by grind
    rw [dist] at us
    have fin2 : (1 + ((m : Rat) + 1) * (9 / 4)) * (ulp * T) = (1 + (m : Rat) * (9 / 4)) * (ulp * T) + 9 / 4 * (ulp * T) := by grind
    rw [fin2]
    grind
end Gim
namespace Gim
open Go Go.RowKit Go.Proofs.YtikebaljjclbnaaDoorW.PrintWords Go.Proofs.YtikebaljjclbnaaDoorW.PrintLast Go.Proofs.YtikebaljjclbnaaDoorW.PrintMore Go.Proofs.YtikebaljjclbnaaDoor.F
set_option linter.unusedVariables false
set_option linter.unusedSectionVars false

/-- Neither beyond all, nor beneath, nor no number. -/
def clean (f : Int) : Prop := B8 f &&& 22#8 = 0#8
theorem or_zero8 {a b : BitVec 8} : a ||| b = 0#8 ↔ a = 0#8 ∧ b = 0#8 := by
  constructor
  · intro h
    constructor
    · ext i hi
      have := congrArg (fun v => v.getLsbD i) h
      simp at this
      rw [← BitVec.getLsbD_eq_getElem]
      rw [this.1]
      simp
    · ext i hi
      have := congrArg (fun v => v.getLsbD i) h
      simp at this
      rw [← BitVec.getLsbD_eq_getElem]
      rw [this.2]
      simp
  · rintro ⟨rfl, rfl⟩; decide
theorem clean_or (x y : Int) : clean (Go.bits .or .u8 x y) ↔ clean x ∧ clean y := by
  unfold clean
  rw [B8_or]
  have e : (B8 x ||| B8 y) &&& 22#8 = (B8 x &&& 22#8) ||| (B8 y &&& 22#8) := by
    ext i hi
    simp [Bool.and_or_distrib_right]
  rw [e, or_zero8]
theorem and8_eq (x y : Int) : Go.bits .and .u8 x y = ((B8 x &&& B8 y).toNat : Int) := by
  have e : Go.bits .and .u8 x y = IntKind.u8.wrap ((BitVec.ofInt 8 x &&& BitVec.ofInt 8 y).toNat : Int) := rfl
  rw [e]
  unfold B8
  generalize (BitVec.ofInt 8 x &&& BitVec.ofInt 8 y) = v
  have := v.isLt
  simp [IntKind.wrap, IntKind.bits, IntKind.signed]
  omega
theorem and22 {F : Int} (h : Go.bits .and .u8 F 22 = 0) : clean F := by
  rw [and8_eq] at h
  unfold clean
  have e : B8 22 = 22#8 := by decide
  rw [e] at h
  apply BitVec.eq_of_toNat_eq
  simpa using h
theorem clean_ne {f : Int} (h : clean f) : f ≠ 3 ∧ f ≠ 5 := by
  constructor
  · rintro rfl; revert h; unfold clean; decide
  · rintro rfl; revert h; unfold clean; decide
theorem cM_clean {F a b : Int} (h : clean (cM F a b).2) : clean F ∧ clean (mP a b).2 := (clean_or _ _).mp h
theorem cS_clean {F a b : Int} (h : clean (cS F a b).2) : clean F ∧ clean (aP a (flip b)).2 := (clean_or _ _).mp h
theorem cD_clean {F a b : Int} (h : clean (cD F a b).2) : clean F ∧ clean (dP a b).2 := (clean_or _ _).mp h
theorem divRd' {a b r f : Int} (fa : fin a) (fb : fin b) (h0 : mag b ≠ 0) (h : DivR a b r f) : Rd (val a / val b) (neg a != neg b) r f := by
  unfold DivR at h
  have n1 := not_inf fa
  have n2 := not_inf fb
  have hz : divBad a b = false := by unfold divBad; simp [n1, n2, h0]
  rw [if_neg (by rw [fin_nan fa, fin_nan fb]; decide), if_neg (by rw [hz]; decide), if_neg n1, if_neg n2, if_neg h0] at h
  exact h
/-- A product that is clean. -/
theorem mv_err {a b : Int} (ha : U a) (hb : U b) (fa : fin a) (fb : fin b) (c : clean (mP a b).2) : fin (mv a b) ∧ rabs (val (mv a b) - val a * val b) ≤ ulp * rabs (val a * val b) := by
  obtain ⟨c3, c5⟩ := clean_ne c
  have := (mv_Rd ha hb fa fb).err c3 c5
  exact ⟨this.1, this.2.1⟩
/-- A difference that is clean. -/
theorem sub_err {a b : Int} (ha : U a) (hb : U b) (fa : fin a) (fb : fin b) (c : clean (aP a (flip b)).2) : fin (av a (flip b)) ∧ rabs (val (av a (flip b)) - (val a - val b)) ≤ ulp * rabs (val (av a (flip b))) := by
  obtain ⟨c3, c5⟩ := clean_ne c
  have R := av_Rd ha (U_flip hb) fa (by unfold fin; rw [mag_flip hb]; exact fb)
  rw [val_flip hb, ← Rat.sub_eq_add_neg] at R
  have := R.err c3 c5
  exact ⟨this.1, this.2.2⟩
/-- A quotient that is clean. -/
theorem quo_err {a b : Int} (ha : U a) (hb : U b) (fa : fin a) (fb : fin b) (h0 : mag b ≠ 0) (c : clean (dP a b).2) : fin (dP a b).1 ∧ rabs (val b * val (dP a b).1 - val a) ≤ ulp * rabs (val b * val (dP a b).1) := by
  obtain ⟨c3, c5⟩ := clean_ne c
  have R := (divRd' fa fb h0 (dP_R ha hb)).err c3 c5
  refine ⟨R.1, ?_⟩
  have hv : val b ≠ 0 := fun e => h0 (val_zero_iff.mp e)
  have e : val b * val (dP a b).1 - val a = val b * (val (dP a b).1 - val a / val b) := by
    have hw : val b * (val a / val b) = val a := by rw [Rat.mul_comm, Rat.div_mul_cancel hv]
    grind
  rw [e, rabs_mul, rabs_mul]
  have := Rat.mul_le_mul_of_nonneg_left R.2.2 (rabs_nonneg (val b))
  grind
theorem tRow_clean {A : Nat → Nat → Int} {i : Nat} : ∀ m lo (s : List Int × Int), clean (tRow A i lo m s).2 → clean s.2
  | 0, lo, s, h => h
  | m + 1, lo, s, h => (cM_clean (cS_clean (tRow_clean m (lo + 1) _ h)).1).1
theorem tDiv_clean {A : Nat → Nat → Int} {one : Bool} {i : Nat} {s : List Int × Int} (h : clean (tDiv A one i s).2) : clean s.2 := by
  unfold tDiv at h
  split at h
  · exact h
  · exact (cD_clean h).1
theorem tRun_clean {n : Nat} {A : Nat → Nat → Int} {up one : Bool} : ∀ m s (x : List Int × Int), clean (tRun n A up one s m x).2 → clean x.2
  | 0, s, x, h => h
  | m + 1, s, x, h => tRow_clean _ _ _ (tDiv_clean (tRun_clean m (s + 1) _ h))
section
variable {n : Nat} {A : Nat → Nat → Int} (hA : ∀ i k, U (A i k)) (fA : ∀ i k, i < n → k < n → fin (A i k))
include hA fA
theorem row_facts {i : Nat} (hi : i < n) : ∀ m lo (l : List Int) (F : Int), Words n l → fin (rd l (i : Int)) → (∀ k, lo ≤ k → k < lo + m → (k < n ∧ k ≠ i) ∧ fin (rd l (k : Int))) → clean (tRow A i lo m (l, F)).2 →
    Words n (tRow A i lo m (l, F)).1 ∧ (∀ q, q < n → q ≠ i → rd (tRow A i lo m (l, F)).1 (q : Int) = rd l (q : Int)) ∧ fin (rd (tRow A i lo m (l, F)).1 (i : Int)) ∧
    ∃ s ph : Nat → Rat, s lo = val (rd l (i : Int)) ∧ s (lo + m) = val (rd (tRow A i lo m (l, F)).1 (i : Int)) ∧
      ∀ j : Nat, lo ≤ j → j < lo + m → rabs (ph j - val (A i j) * val (rd l (j : Int))) ≤ ulp * rabs (val (A i j) * val (rd l (j : Int))) ∧ rabs (s (j + 1) - (s j - ph j)) ≤ ulp * rabs (s (j + 1)) := by
  intro m
  induction m with
  | zero =>
    intro lo l F wl fl _ _
    exact ⟨wl, fun q _ _ => rfl, fl, fun _ => val (rd l (i : Int)), fun _ => 0, rfl, rfl, fun j a b => by omega⟩
  | succ m ih =>
    intro lo l F wl fl hk hc
    obtain ⟨⟨k1, k2⟩, fk⟩ := hk lo (by omega) (by omega)
    have hl := wl.1
    have c1 := tRow_clean m (lo + 1) (tStep A i lo (l, F)) hc
    obtain ⟨c2, c3⟩ := cS_clean c1
    obtain ⟨c4, c5⟩ := cM_clean c2
    have ul := rdU hA wl hi
    have uk := rdU hA wl k1
    obtain ⟨g1, g2⟩ := mv_err (hA i lo) uk (fA i lo hi k1) fk c5
    obtain ⟨g3, g4⟩ := sub_err ul (mv_U (hA i lo) uk) fl g1 c3
    have e1 : rd (tStep A i lo (l, F)).1 (i : Int) = av (rd l (i : Int)) (flip (mv (A i lo) (rd l (lo : Int)))) := by
      unfold tStep
      dsimp only
      rw [rd_set (by omega), if_pos rfl]
      rfl
    have e2 : ∀ q, q ≠ i → rd (tStep A i lo (l, F)).1 (q : Int) = rd l (q : Int) := by
      intro q hq
      unfold tStep
      dsimp only
      rw [rd_set (by omega), if_neg (by omega)]
    obtain ⟨r1, r2, r3, s, ph, r4, r5, r6⟩ := ih (lo + 1) (tStep A i lo (l, F)).1 (tStep A i lo (l, F)).2 (tStep_W hA hi k1 wl) (by rw [e1]; exact g3) (fun k a b => by
      have h := hk k (by omega) (by omega)
      rw [e2 k h.1.2]
      exact h) hc
    refine ⟨r1, fun q a b => (r2 q a b).trans (e2 q b), r3, fun j => if j = lo then val (rd l (i : Int)) else s j, fun j => if j = lo then val (mv (A i lo) (rd l (lo : Int))) else ph j, if_pos rfl, ?_, ?_⟩
    · show (if lo + (m + 1) = lo then _ else s (lo + (m + 1))) = _
      rw [if_neg (by omega), show lo + (m + 1) = lo + 1 + m from by omega]
      exact r5
    · intro j a b
      by_cases c : j = lo
      · subst c
        show rabs ((if j = j then _ else _) - _) ≤ _ ∧ rabs ((if j + 1 = j then _ else s (j + 1)) - ((if j = j then _ else _) - (if j = j then _ else _))) ≤ ulp * rabs (if j + 1 = j then _ else s (j + 1))
        rw [if_pos rfl, if_neg (by omega), if_pos rfl, r4, e1]
        exact ⟨g2, g4⟩
      · have h := r6 j (by omega) (by omega)
        rw [e2 j (hk j a b).1.2] at h
        show rabs ((if j = lo then _ else ph j) - _) ≤ _ ∧ rabs ((if j + 1 = lo then _ else s (j + 1)) - ((if j = lo then _ else s j) - (if j = lo then _ else ph j))) ≤ ulp * rabs (if j + 1 = lo then _ else s (j + 1))
        rw [if_neg c, if_neg (by omega), if_neg c]
        exact h
end

/-- The answer's own product in its row. -/
def rowT (A : Nat → Nat → Int) (one : Bool) (l : List Int) (i : Nat) : Rat := if one = true then val (rd l (i : Int)) else val (A i i) * val (rd l (i : Int))
def RowOK (n : Nat) (A : Nat → Nat → Int) (up one : Bool) (b l : List Int) (i : Nat) : Prop :=
  fin (rd l (i : Int)) ∧ rabs (val (rd b (i : Int)) - (rowT A one l i + rs (fun k => val (A i k) * val (rd l (k : Int))) (loOf up i) (cntOf n up i))) ≤
    (1 + (cntOf n up i : Rat) * (9 / 4)) * (ulp * (rabs (rowT A one l i) + rs (fun k => rabs (val (A i k) * val (rd l (k : Int)))) (loOf up i) (cntOf n up i)))
theorem rs_congr {g g' : Nat → Rat} : ∀ m lo, (∀ k, lo ≤ k → k < lo + m → g k = g' k) → rs g lo m = rs g' lo m
  | 0, _, _ => rfl
  | m + 1, lo, h => by
    simp only [rs]
    rw [h lo (by omega) (by omega), rs_congr m (lo + 1) (fun k a b => h k (by omega) (by omega))]
theorem RowOK.congr {n : Nat} {A : Nat → Nat → Int} {up one : Bool} {b l l' : List Int} {i : Nat} (h : RowOK n A up one b l i) (e : rd l' (i : Int) = rd l (i : Int))
    (es : ∀ k, loOf up i ≤ k → k < loOf up i + cntOf n up i → rd l' (k : Int) = rd l (k : Int)) : RowOK n A up one b l' i := by
  have t : rowT A one l' i = rowT A one l i := by unfold rowT; rw [e]
  have r1 : rs (fun k => val (A i k) * val (rd l' (k : Int))) (loOf up i) (cntOf n up i) = rs (fun k => val (A i k) * val (rd l (k : Int))) (loOf up i) (cntOf n up i) := rs_congr _ _ fun k a b => by rw [es k a b]
  have r2 : rs (fun k => rabs (val (A i k) * val (rd l' (k : Int)))) (loOf up i) (cntOf n up i) = rs (fun k => rabs (val (A i k) * val (rd l (k : Int)))) (loOf up i) (cntOf n up i) := rs_congr _ _ fun k a b => by rw [es k a b]
  unfold RowOK at h ⊢
  rw [t, r1, r2, e]
  exact h
section
variable {n : Nat} (hn : n ≤ 12) {A : Nat → Nat → Int} (hA : ∀ i k, U (A i k)) (fA : ∀ i k, i < n → k < n → fin (A i k)) {one : Bool} (h0 : one = false → ∀ i, i < n → mag (A i i) ≠ 0) {b : List Int} (fb : ∀ i : Nat, i < n → fin (rd b (i : Int)))
include hn hA fA h0 fb
theorem one_row {up : Bool} {i : Nat} (hi : i < n) {l : List Int} {F : Int} (wl : Words n l) (eb : rd l (i : Int) = rd b (i : Int)) (hs : ∀ k, loOf up i ≤ k → k < loOf up i + cntOf n up i → (k < n ∧ k ≠ i) ∧ fin (rd l (k : Int)))
    (hc : clean (tDiv A one i (tRow A i (loOf up i) (cntOf n up i) (l, F))).2) :
    (∀ q, q < n → q ≠ i → rd (tDiv A one i (tRow A i (loOf up i) (cntOf n up i) (l, F))).1 (q : Int) = rd l (q : Int)) ∧ RowOK n A up one b (tDiv A one i (tRow A i (loOf up i) (cntOf n up i) (l, F))).1 i := by
  obtain ⟨w1, o1, f1, s, ph, s1, s2, s3⟩ := row_facts hA fA hi (cntOf n up i) (loOf up i) l F wl (by rw [eb]; exact fb i hi) hs (tDiv_clean hc)
  have len1 := w1.1
  have few : cntOf n up i ≤ 12 := by unfold cntOf; split <;> omega
  -- what the row ends in
  have last : ∃ x : Int, rd (tDiv A one i (tRow A i (loOf up i) (cntOf n up i) (l, F))).1 (i : Int) = x ∧ fin x ∧ (∀ q, q ≠ i → rd (tDiv A one i (tRow A i (loOf up i) (cntOf n up i) (l, F))).1 (q : Int) = rd (tRow A i (loOf up i) (cntOf n up i) (l, F)).1 (q : Int)) ∧
      rabs ((if one = true then val x else val (A i i) * val x) - s (loOf up i + cntOf n up i)) ≤ ulp * rabs (if one = true then val x else val (A i i) * val x) := by
    cases one
    · have q := quo_err (rdU hA w1 hi) (hA i i) f1 (fA i i hi hi) (h0 rfl i hi) (cD_clean hc).2
      refine ⟨(dP (rd (tRow A i (loOf up i) (cntOf n up i) (l, F)).1 (i : Int)) (A i i)).1, ?_, q.1, ?_, ?_⟩
      · unfold tDiv
        rw [if_neg (by simp)]
        dsimp only
        rw [rd_set (by omega), if_pos rfl]
        rfl
      · intro q hq
        unfold tDiv
        rw [if_neg (by simp)]
        dsimp only
        rw [rd_set (by omega), if_neg (by omega)]
      · rw [if_neg (by simp), s2]
        exact q.2
    · refine ⟨rd (tRow A i (loOf up i) (cntOf n up i) (l, F)).1 (i : Int), by unfold tDiv; rw [if_pos rfl], f1, fun q _ => by unfold tDiv; rw [if_pos rfl], ?_⟩
      rw [if_pos rfl, s2]
      have z : ∀ y : Rat, rabs (y - y) = 0 := by intro y; rw [show y - y = 0 by grind, rabs_zero]
      rw [z]
      exact Rat.mul_nonneg (Rat.le_of_lt ulp_pos) (rabs_nonneg _)
  obtain ⟨x, e1, fx, e2, hx⟩ := last
  have oth : ∀ q, q < n → q ≠ i → rd (tDiv A one i (tRow A i (loOf up i) (cntOf n up i) (l, F))).1 (q : Int) = rd l (q : Int) := fun q a c => (e2 q c).trans (o1 q a c)
  refine ⟨oth, ?_, ?_⟩
  · rw [e1]; exact fx
  · have t : rowT A one (tDiv A one i (tRow A i (loOf up i) (cntOf n up i) (l, F))).1 i = (if one = true then val x else val (A i i) * val x) := by unfold rowT; rw [e1]
    have r1 : rs (fun k => val (A i k) * val (rd (tDiv A one i (tRow A i (loOf up i) (cntOf n up i) (l, F))).1 (k : Int))) (loOf up i) (cntOf n up i) = rs (fun k => val (A i k) * val (rd l (k : Int))) (loOf up i) (cntOf n up i) :=
      rs_congr _ _ fun k a c => by rw [oth k (hs k a c).1.1 (hs k a c).1.2]
    have r2 : rs (fun k => rabs (val (A i k) * val (rd (tDiv A one i (tRow A i (loOf up i) (cntOf n up i) (l, F))).1 (k : Int)))) (loOf up i) (cntOf n up i) = rs (fun k => rabs (val (A i k) * val (rd l (k : Int)))) (loOf up i) (cntOf n up i) :=
      rs_congr _ _ fun k a c => by rw [oth k (hs k a c).1.1 (hs k a c).1.2]
    rw [t, r1, r2, ← eb, ← s1]
    exact row_err (p := fun k => val (A i k) * val (rd l (k : Int))) (ph := ph) (s := s) (cntOf n up i) (loOf up i) few s3 hx (Rat.le_refl)
theorem tri_run {up : Bool} : ∀ m s (l : List Int) (F : Int), s + m = n → Words n l → (∀ i, i < n → (∀ j, j < s → rowOf n up j ≠ i) → rd l (i : Int) = rd b (i : Int)) →
    (∀ i, i < n → (∃ j, j < s ∧ rowOf n up j = i) → RowOK n A up one b l i) → clean (tRun n A up one s m (l, F)).2 → ∀ i, i < n → RowOK n A up one b (tRun n A up one s m (l, F)).1 i := by
  intro m
  induction m with
  | zero =>
    intro s l F hs wl hu hd _ i hi
    refine hd i hi ⟨if up = true then n - 1 - i else i, ?_, ?_⟩
    · split <;> omega
    · unfold rowOf; split <;> simp_all <;> omega
  | succ m ih =>
    intro s l F hs wl hu hd hc
    have hi := rowOf_lt (up := up) (show s < n by omega)
    have new : ∀ j, j < s → rowOf n up j ≠ rowOf n up s := by
      intro j hj
      unfold rowOf
      split <;> omega
    have span : ∀ i, i < n → (∃ j, j ≤ s ∧ rowOf n up j = i) → ∀ k, loOf up i ≤ k → k < loOf up i + cntOf n up i → (k < n ∧ k ≠ i) ∧ ∃ j, j < s ∧ rowOf n up j = k := by
      intro i hi hj k a c
      obtain ⟨j, j1, j2⟩ := hj
      unfold rowOf at j2
      unfold loOf at a c
      unfold cntOf at c
      refine ⟨?_, if up = true then n - 1 - k else k, ?_, ?_⟩
      · split at c <;> simp_all <;> omega
      · split at c <;> simp_all <;> omega
      · unfold rowOf
        split at c <;> simp_all <;> omega
    have c1 : clean (tOne n A up one s (l, F)).2 := tRun_clean m (s + 1) _ hc
    obtain ⟨o1, ok⟩ := one_row hn hA fA h0 fb (up := up) hi (l := l) (F := F) wl (hu _ hi new) (fun k a c => by
      obtain ⟨x1, x2⟩ := span _ hi ⟨s, Nat.le_refl _, rfl⟩ k a c
      exact ⟨x1, (hd k x1.1 x2).1⟩) c1
    have W2 : Words n (tOne n A up one s (l, F)).1 := tOne_W hA (by omega) wl
    refine ih (s + 1) (tOne n A up one s (l, F)).1 (tOne n A up one s (l, F)).2 (by omega) W2 ?_ ?_ hc
    · intro j hj hne
      have e := o1 j hj (fun e => hne s (by omega) e.symm)
      exact e.trans (hu j hj (fun k hk => hne k (by omega)))
    · intro j hj hex
      by_cases e : j = rowOf n up s
      · subst e; exact ok
      · have dj : ∃ k, k < s ∧ rowOf n up k = j := by
          obtain ⟨k, k1, k2⟩ := hex
          refine ⟨k, ?_, k2⟩
          rcases Nat.lt_or_ge k s with g | g
          · exact g
          · obtain rfl : k = s := by omega
            exact absurd k2.symm e
        refine (hd j hj dj).congr (o1 j hj e) fun k a c => ?_
        obtain ⟨k1, k2⟩ := dj
        obtain ⟨x1, y, y1, y2⟩ := span j hj ⟨k1, by omega, k2.2⟩ k a c
        exact o1 k x1.1 (fun e2 => new y y1 (y2.trans e2))
/-- EVERY ROW OF A TRIANGLE'S ANSWER IS NEAR. -/
theorem tri_near {up : Bool} (wb : Words n b) {F : Int} (hc : clean (tRun n A up one 0 n (b, F)).2) : ∀ i, i < n → RowOK n A up one b (tRun n A up one 0 n (b, F)).1 i :=
  tri_run hn hA fA h0 fb n 0 b F (by omega) wb (fun i _ _ => rfl) (fun i _ h => by obtain ⟨j, h1, _⟩ := h; omega) hc
end

theorem at_set4 {n : Nat} {d : List Int} (hd : d.length = n * n) {i j a b : Nat} (hi : i < n) (hj : j < n) (ha : a < n) (hb : b < n) (v : Int) :
    at4 n n n (set4 n n n d a b v) i j = if i = a ∧ j = b then v else at4 n n n d i j := by
  have hl : (Gim.set4 n n n d a b v).length = n * n := by unfold Gim.set4; split <;> simp [hd]
  rw [at_dense hl hi hj, at_dense hd hi hj]
  unfold Gim.set4
  rw [if_pos (inB_dense hd ha hb)]
  have p := place_lt ha hb
  have e : ((a : Int) * (n : Int) + (b : Int)).toNat = a * n + b := by rw [← Int.natCast_mul, ← Int.natCast_add]; exact Int.toNat_natCast _
  rw [e, rd_set (by omega)]
  by_cases c : i = a ∧ j = b
  · rw [if_pos c, if_pos (by rw [c.1, c.2])]
  · rw [if_neg c, if_neg ?_]
    intro e2
    have a1 := place_div (i := a) hb
    have a2 := place_div (i := i) hj
    rw [e2, a2] at a1
    have b1 := place_mod (i := a) hb
    have b2 := place_mod (i := i) hj
    rw [e2, b2] at b1
    exact c ⟨a1, b1⟩
/-- Two places changed. -/
def sw (s r i : Nat) : Nat := if i = s then r else if i = r then s else i
theorem sw_lt {n s r i : Nat} (hs : s < n) (hr : r < n) (hi : i < n) : sw s r i < n := by unfold sw; split <;> (try split) <;> omega
theorem sw_ge {s r i : Nat} (hr : s ≤ r) (hi : s ≤ i) : s ≤ sw s r i := by unfold sw; split <;> (try split) <;> omega
theorem sw_lo {s r i : Nat} (hr : s ≤ r) (hi : i < s) : sw s r i = i := by unfold sw; rw [if_neg (by omega), if_neg (by omega)]
theorem sw_sw {s r i : Nat} : sw s r (sw s r i) = i := by unfold sw; split <;> (try split) <;> (try split) <;> (try split) <;> omega
theorem sw_s {s r : Nat} : sw s r s = r := by unfold sw; rw [if_pos rfl]
theorem wn {x : Nat} (h : x ≤ 100) : wrap64 ((x : Int) + 1) = ((x + 1 : Nat) : Int) := by rw [w64 (by omega) (by omega)]; omega
abbrev PR := List Int × Bool × Int × Int
theorem ap (n : Nat) (hn : n ≤ 4) (d : List Int) (i j : Nat) : mat_Matrix_At.f n n n d i j = some (at4 n n n d i j) := at_eq (Sm.nat (by omega) (by omega)) d i j
theorem sp (n : Nat) (hn : n ≤ 4) (d : List Int) (i j : Nat) (v : Int) : mat_Matrix_Set.f n n n d i j v = some (set4 n n n d i j v) := set_eq (Sm.nat (by omega) (by omega)) d i j v
section
variable {n : Nat} (hn : n ≤ 4) {ls : Int}
/-- The greatest of those that were seen. -/
structure Srch (n s : Nat) (d : List Int) (r k : Nat) (most : Int) (seen : Nat → Nat → Prop) : Prop where
  ge : ∀ i j, seen i j → mag (at4 n n n d i j) ≤ most
  at_ : (most = 0 ∧ r = s ∧ k = s) ∨ most = mag (at4 n n n d r k)
  r : s ≤ r ∧ r < n
  k : s ≤ k ∧ k < n
  nn : 0 ≤ most
include hn
section
variable {s : Nat} (hs : s < n) {d : List Int} (hd : Words (n * n) d)
include hs hd
theorem srch_l4 {x π : List Int} {mk : Bool} {F : Int} {Q : PR → Prop} {i : Nat} (si : s ≤ i) (hi : i < n)
    (next : ∀ r k most, Srch n s d r k most (fun a b => a ≤ i ∧ s ≤ a ∧ s ≤ b ∧ b < n) → ∃ ρ, Ev (fun K => solve_Pivot.l2 K ls n x π mk s r k most ((i + 1 : Nat) : Int) n s F n n n d) ρ ∧ Q ρ) :
    ∀ t j : Nat, n - j = t → s ≤ j → j ≤ n → ∀ (r k : Nat) most, Srch n s d r k most (fun a b => (a < i ∧ s ≤ a ∧ s ≤ b ∧ b < n) ∨ (a = i ∧ s ≤ a ∧ s ≤ b ∧ b < j)) →
      ∃ ρ, Ev (fun K => solve_Pivot.l4 K ls n x π mk s r k most i j n s F n n n d) ρ ∧ Q ρ := by
  intro t
  induction t with
  | zero =>
    intro j h1 h2 h3 r k most h
    obtain ⟨ρ, ev, q⟩ := next r k most ⟨fun a b hab => h.ge a b (by omega), h.at_, h.r, h.k, h.nn⟩
    refine ⟨ρ, Ev.succ ?_, q⟩
    simp only [solve_Pivot.l4]
    rw [wn (x := i) (by omega)]
    exact Ev.neg (by omega) ev
  | succ t ih =>
    intro j h1 h2 h3 r k most h
    have u := at_U (r := (n : Int)) (c := (n : Int)) (s := (n : Int)) hd.2 (i : Int) (j : Int)
    have hm := (mag_lt (a := at4 n n n d i j)).1
    have nn := h.nn
    by_cases c : mag (at4 n n n d i j) > most
    · obtain ⟨ρ, ev, q⟩ := ih (j + 1) (by omega) (by omega) (by omega) i j (mag (at4 n n n d i j)) ⟨fun a b hab => by
          by_cases e : a = i ∧ b = j
          · rw [e.1, e.2]; exact Int.le_refl _
          · have := h.ge a b (by omega); omega, .inr rfl, ⟨si, hi⟩, ⟨h2, by omega⟩, hm⟩
      refine ⟨ρ, Ev.succ ?_, q⟩
      simp only [solve_Pivot.l4]
      rw [wn (by omega)]
      exact Ev.pos (by omega) (Ev.call (ap n hn d i j) (Ev.call (word_Abs_eq u) (Ev.pos c ev)))
    · obtain ⟨ρ, ev, q⟩ := ih (j + 1) (by omega) (by omega) (by omega) r k most ⟨fun a b hab => by
          by_cases e : a = i ∧ b = j
          · rw [e.1, e.2]; omega
          · exact h.ge a b (by omega), h.at_, h.r, h.k, h.nn⟩
      refine ⟨ρ, Ev.succ ?_, q⟩
      simp only [solve_Pivot.l4]
      rw [wn (by omega)]
      exact Ev.pos (by omega) (Ev.call (ap n hn d i j) (Ev.call (word_Abs_eq u) (Ev.neg c ev)))
theorem srch_l2 {x π : List Int} {mk : Bool} {F : Int} {Q : PR → Prop} (next : ∀ r k : Nat, (s ≤ r ∧ r < n) → (s ≤ k ∧ k < n) → (∀ i j, s ≤ i → i < n → s ≤ j → j < n → mag (at4 n n n d i j) ≤ mag (at4 n n n d r k)) →
      ∃ ρ, Ev (fun K => solve_Pivot.l5 K ls n x π mk s r k n s n 0 F n n n d) ρ ∧ Q ρ) :
    ∀ t i : Nat, n - i = t → s ≤ i → i ≤ n → ∀ (r k : Nat) most, Srch n s d r k most (fun a b => a < i ∧ s ≤ a ∧ s ≤ b ∧ b < n) → ∃ ρ, Ev (fun K => solve_Pivot.l2 K ls n x π mk s r k most i n s F n n n d) ρ ∧ Q ρ := by
  intro t
  induction t with
  | zero =>
    intro i h1 h2 h3 r k most h
    obtain ⟨ρ, ev, q⟩ := next r k h.r h.k (fun a b a1 a2 b1 b2 => by
      have g := h.ge a b (by omega)
      rcases h.at_ with ⟨e, _⟩ | e
      · have := (mag_lt (a := at4 n n n d r k)).1; omega
      · omega)
    refine ⟨ρ, Ev.succ ?_, q⟩
    simp only [solve_Pivot.l2]
    exact Ev.neg (by omega) ev
  | succ t ih =>
    intro i h1 h2 h3 r k most h
    obtain ⟨ρ, ev, q⟩ := srch_l4 hn hs hd (ls := ls) (x := x) (π := π) (mk := mk) (F := F) (Q := Q) h2 (by omega) (fun r k most h => ih (i + 1) (by omega) (by omega) (by omega) r k most ⟨fun a b hab => h.ge a b (by omega), h.at_, h.r, h.k, h.nn⟩) (n - s) s rfl (Nat.le_refl _) (by omega) r k most
      ⟨fun a b hab => h.ge a b (by omega), h.at_, h.r, h.k, h.nn⟩
    refine ⟨ρ, Ev.succ ?_, q⟩
    simp only [solve_Pivot.l2]
    exact Ev.pos (by omega) ev
end
/-- Rows changed as far as a column, columns changed as far as a row. -/
structure RS (n s r t : Nat) (d e : List Int) : Prop where
  w : Words (n * n) e
  a : ∀ i j, i < n → j < n → at4 n n n e i j = if j < t then at4 n n n d (sw s r i : Nat) j else at4 n n n d i j
structure CS (n s k t : Nat) (d e : List Int) : Prop where
  w : Words (n * n) e
  a : ∀ i j, i < n → j < n → at4 n n n e i j = if i < t then at4 n n n d i (sw s k j : Nat) else at4 n n n d i j
section
variable {s r k : Nat} (hs : s < n) (hr : r < n) (hk : k < n) {d : List Int}
include hs hr hk
theorem rows_l5 {x π : List Int} {mk : Bool} {F : Int} (wx : Words n x) : ∀ t j : Nat, n - j = t → j ≤ n → ∀ e, RS n s r j d e → ∃ e', RS n s r n d e' ∧
    ∀ ρ, Ev (fun K => solve_Pivot.l6 K ls n ((x.set s (rd x (r : Int))).set r (rd x (s : Int))) π mk s k n s n 0 F n n n e') ρ → Ev (fun K => solve_Pivot.l5 K ls n x π mk s r k n s n j F n n n e) ρ := by
  intro t
  induction t with
  | zero =>
    intro j h1 h2 e he
    obtain rfl : j = n := by omega
    have hl := wx.1
    refine ⟨e, he, fun ρ ev => Ev.succ ?_⟩
    simp only [solve_Pivot.l5]
    exact Ev.neg (by omega) (Ev.pos (by omega) (Ev.pos (by omega) (Ev.pos (by omega) (Ev.pos (by omega) ev))))
  | succ t ih =>
    intro j h1 h2 e he
    have hj : j < n := by omega
    have us := at_U (r := (n : Int)) (c := (n : Int)) (s := (n : Int)) he.w.2 (s : Int) (j : Int)
    have ur := at_U (r := (n : Int)) (c := (n : Int)) (s := (n : Int)) he.w.2 (r : Int) (j : Int)
    have w1 : Words (n * n) (set4 n n n e s j (at4 n n n e r j)) := he.w.set4 _ _ _ _ _ ur
    have w2 : Words (n * n) (set4 n n n (set4 n n n e s j (at4 n n n e r j)) r j (at4 n n n e s j)) := w1.set4 _ _ _ _ _ us
    obtain ⟨e', h', go⟩ := ih (j + 1) (by omega) (by omega) _ ⟨w2, fun a b ha hb => by
      rw [at_set4 w1.1 ha hb hr hj, at_set4 he.w.1 ha hb hs hj, he.a s j hs hj, he.a r j hr hj, he.a a b ha hb, if_neg (Nat.lt_irrefl _), if_neg (Nat.lt_irrefl _)]
      by_cases c : b = j
      · subst c
        rw [if_neg (Nat.lt_irrefl _), if_pos (Nat.lt_succ_self _)]
        unfold sw
        by_cases c1 : a = r
        · by_cases c2 : a = s
          · rw [if_pos ⟨c1, rfl⟩, if_pos c2, ← c1, c2]
          · rw [if_pos ⟨c1, rfl⟩, if_neg c2, if_pos c1]
        · rw [if_neg (fun h => c1 h.1)]
          by_cases c2 : a = s
          · rw [if_pos ⟨c2, rfl⟩, if_pos c2]
          · rw [if_neg (fun h => c2 h.1), if_neg c2, if_neg c1]
      · rw [if_neg (fun h => c h.2), if_neg (fun h => c h.2)]
        by_cases c3 : b < j
        · rw [if_pos c3, if_pos (by omega)]
        · rw [if_neg c3, if_neg (by omega)]⟩
    refine ⟨e', h', fun ρ ev => Ev.succ ?_⟩
    simp only [solve_Pivot.l5]
    rw [wn (by omega)]
    exact Ev.pos (by omega) (Ev.call (ap n hn e s j) (Ev.call (ap n hn e r j) (Ev.call (sp n hn e s j _) (Ev.call (sp n hn _ r j _) (go ρ ev)))))
theorem cols_l6 {x π : List Int} {mk : Bool} {F : Int} (hp : π.length = n) (hl : U ls) : ∀ t i : Nat, n - i = t → i ≤ n → ∀ e, CS n s k i d e → ∃ e', CS n s k n d e' ∧
    ∀ ρ, (if mag (at4 n n n e' s s) < ls then Ev (fun K => solve_Pivot.j9 K ls n x ((π.set s (rd π (k : Int))).set k (rd π (s : Int))) true s n s F n n n (set4 n n n e' s s ls)) ρ else
        Ev (fun K => solve_Pivot.j9 K ls n x ((π.set s (rd π (k : Int))).set k (rd π (s : Int))) mk s n s F n n n e') ρ) → Ev (fun K => solve_Pivot.l6 K ls n x π mk s k n s n i F n n n e) ρ := by
  intro t
  induction t with
  | zero =>
    intro i h1 h2 e he
    obtain rfl : i = n := by omega
    have us := at_U (r := (i : Int)) (c := (i : Int)) (s := (i : Int)) he.w.2 (s : Int) (s : Int)
    refine ⟨e, he, fun ρ ev => Ev.succ ?_⟩
    simp only [solve_Pivot.l6]
    refine Ev.neg (by omega) (Ev.pos (by omega) (Ev.pos (by omega) (Ev.pos (by omega) (Ev.pos (by omega) (Ev.call (ap i hn e s s) (Ev.call (word_Abs_eq us) ?_))))))
    by_cases c : mag (at4 i i i e s s) < ls
    · rw [if_pos c] at ev
      exact Ev.pos c (Ev.call (sp i hn e s s ls) ev)
    · rw [if_neg c] at ev
      exact Ev.neg c ev
  | succ t ih =>
    intro i h1 h2 e he
    have hi : i < n := by omega
    have us := at_U (r := (n : Int)) (c := (n : Int)) (s := (n : Int)) he.w.2 (i : Int) (s : Int)
    have ur := at_U (r := (n : Int)) (c := (n : Int)) (s := (n : Int)) he.w.2 (i : Int) (k : Int)
    have w1 : Words (n * n) (set4 n n n e i s (at4 n n n e i k)) := he.w.set4 _ _ _ _ _ ur
    have w2 : Words (n * n) (set4 n n n (set4 n n n e i s (at4 n n n e i k)) i k (at4 n n n e i s)) := w1.set4 _ _ _ _ _ us
    obtain ⟨e', h', go⟩ := ih (i + 1) (by omega) (by omega) _ ⟨w2, fun a b ha hb => by
      rw [at_set4 w1.1 ha hb hi hk, at_set4 he.w.1 ha hb hi hs, he.a i s hi hs, he.a i k hi hk, he.a a b ha hb, if_neg (Nat.lt_irrefl _), if_neg (Nat.lt_irrefl _)]
      by_cases c : a = i
      · subst c
        rw [if_neg (Nat.lt_irrefl _), if_pos (Nat.lt_succ_self _)]
        unfold sw
        by_cases c1 : b = k
        · by_cases c2 : b = s
          · rw [if_pos ⟨rfl, c1⟩, if_pos c2, ← c1, c2]
          · rw [if_pos ⟨rfl, c1⟩, if_neg c2, if_pos c1]
        · rw [if_neg (fun h => c1 h.2)]
          by_cases c2 : b = s
          · rw [if_pos ⟨rfl, c2⟩, if_pos c2]
          · rw [if_neg (fun h => c2 h.2), if_neg c2, if_neg c1]
      · rw [if_neg (fun h => c h.1), if_neg (fun h => c h.1)]
        by_cases c3 : a < i
        · rw [if_pos c3, if_pos (by omega)]
        · rw [if_neg c3, if_neg (by omega)]⟩
    refine ⟨e', h', fun ρ ev => Ev.succ ?_⟩
    simp only [solve_Pivot.l6]
    rw [wn (by omega)]
    exact Ev.pos (by omega) (Ev.call (ap n hn e i s) (Ev.call (ap n hn e i k) (Ev.call (sp n hn e i s _) (Ev.call (sp n hn _ i k _) (go ρ ev)))))
end
/-- What comes of a number: less a multiple. -/
noncomputable def el (d : List Int) (n s : Nat) (f : Int) (i j : Nat) : Int := av (at4 n n n d i j) (flip (mv f (at4 n n n d s j)))
noncomputable def quo (d : List Int) (n s i : Nat) : Int := (dP (at4 n n n d i s) (at4 n n n d s s)).1
noncomputable def xl (x : List Int) (s : Nat) (f : Int) (i : Nat) : Int := av (rd x (i : Int)) (flip (mv f (rd x (s : Int))))
def cleanE (d : List Int) (n s : Nat) (f : Int) (i j : Nat) : Prop := clean (mP f (at4 n n n d s j)).2 ∧ clean (aP (at4 n n n d i j) (flip (mv f (at4 n n n d s j)))).2
def cleanX (x : List Int) (s : Nat) (f : Int) (i : Nat) : Prop := clean (mP f (rd x (s : Int))).2 ∧ clean (aP (rd x (i : Int)) (flip (mv f (rd x (s : Int))))).2
structure E8 (n s i j : Nat) (f : Int) (d e : List Int) (F G : Int) : Prop where
  w : Words (n * n) e
  a : ∀ a b, a < n → b < n → at4 n n n e a b = if a = i ∧ s < b ∧ b < j then el d n s f i b else at4 n n n d a b
  c : clean G → clean F ∧ ∀ b, s < b → b < j → cleanE d n s f i b
structure E7 (n s i : Nat) (d x e y : List Int) (F G : Int) : Prop where
  w : Words (n * n) e
  wx : Words n y
  a : ∀ a b, a < n → b < n → at4 n n n e a b = if s < a ∧ a < i ∧ s < b then el d n s (quo d n s a) a b else at4 n n n d a b
  ax : ∀ a, a < n → rd y (a : Int) = if s < a ∧ a < i then xl x s (quo d n s a) a else rd x (a : Int)
  c : clean G → clean F ∧ ∀ a, s < a → a < i → clean (dP (at4 n n n d a s) (at4 n n n d s s)).2 ∧ (∀ b, s < b → b < n → cleanE d n s (quo d n s a) a b) ∧ cleanX x s (quo d n s a) a
section
variable {s : Nat} (hs : s < n) {d : List Int} (hd : Words (n * n) d)
include hs hd
theorem off_l8 {x π : List Int} {mk : Bool} {F f : Int} (uf : U f) (wx : Words n x) {i : Nat} (si : s < i) (hi : i < n) : ∀ t j : Nat, n - j = t → s < j → j ≤ n → ∀ e G, E8 n s i j f d e F G → ∃ e' G', E8 n s i n f d e' F G' ∧
    ∀ ρ, Ev (fun K => solve_Pivot.l7 K ls n (x.set i (xl x s f i)) π mk s ((i + 1 : Nat) : Int) n s (cS (cM G' f (rd x (s : Int))).2 (rd x (i : Int)) (mv f (rd x (s : Int)))).2 n n n e') ρ → Ev (fun K => solve_Pivot.l8 K ls n x π mk s i f j n s G n n n e) ρ := by
  intro t
  induction t with
  | zero =>
    intro j h1 h2 h3 e G he
    obtain rfl : j = n := by omega
    have hl := wx.1
    have u1 := rd_U wx.2 s
    have u2 := rd_U wx.2 i
    refine ⟨e, G, he, fun ρ ev => Ev.succ ?_⟩
    simp only [solve_Pivot.l8]
    rw [wn (x := i) (by omega)]
    exact Ev.neg (by omega) (Ev.pos (by omega) (Ev.pos (by omega) (Ev.pos (by omega) (Ev.pos (by omega) (Ev.bind (cM_ev uf u1) (Ev.bind (cS_ev u2 (cM_U (F := G) uf u1)) ev))))))
  | succ t ih =>
    intro j h1 h2 h3 e G he
    have hj : j < n := by omega
    have e1 : at4 n n n e i j = at4 n n n d i j := by rw [he.a i j hi hj, if_neg (by omega)]
    have e2 : at4 n n n e s j = at4 n n n d s j := by rw [he.a s j hs hj, if_neg (by omega)]
    have u1 := at_U (r := (n : Int)) (c := (n : Int)) (s := (n : Int)) hd.2 (s : Int) (j : Int)
    have u2 := at_U (r := (n : Int)) (c := (n : Int)) (s := (n : Int)) hd.2 (i : Int) (j : Int)
    have um := cM_U (F := G) uf u1
    have uS := cS_U (F := (cM G f (at4 n n n d s j)).2) u2 um
    obtain ⟨e', G', h', go⟩ := ih (j + 1) (by omega) (by omega) (by omega) (set4 n n n e i j (el d n s f i j)) (cS (cM G f (at4 n n n d s j)).2 (at4 n n n d i j) (cM G f (at4 n n n d s j)).1).2 ⟨he.w.set4 _ _ _ _ _ uS, fun a b ha hb => by
      rw [at_set4 he.w.1 ha hb hi hj, he.a a b ha hb]
      by_cases c : a = i ∧ b = j
      · rw [if_pos c, if_pos ⟨c.1, by omega, by omega⟩, c.2]
      · rw [if_neg c]
        by_cases c2 : a = i ∧ s < b ∧ b < j
        · rw [if_pos c2, if_pos ⟨c2.1, by omega, by omega⟩]
        · rw [if_neg c2, if_neg (by omega)], fun hc => by
      obtain ⟨c1, c2⟩ := cS_clean hc
      obtain ⟨c3, c4⟩ := cM_clean c1
      obtain ⟨c5, c6⟩ := he.c c3
      refine ⟨c5, fun b b1 b2 => ?_⟩
      by_cases c : b = j
      · rw [c]; exact ⟨c4, c2⟩
      · exact c6 b b1 (by omega)⟩
    refine ⟨e', G', h', fun ρ ev => Ev.succ ?_⟩
    have g := go ρ ev
    simp only [solve_Pivot.l8]
    rw [wn (by omega)]
    refine Ev.pos (by omega) (Ev.call (ap n hn e i j) (Ev.call (ap n hn e s j) ?_))
    rw [e1, e2]
    exact Ev.bind (cM_ev uf u1) (Ev.bind (cS_ev u2 um) (Ev.call (sp n hn e i j _) g))
theorem off_l7 {x π : List Int} {mk : Bool} {F : Int} (wx : Words n x) : ∀ t i : Nat, n - i = t → s < i → i ≤ n → ∀ e y G, E7 n s i d x e y F G → ∃ e' y' G', E7 n s n d x e' y' F G' ∧
    ∀ ρ, Ev (fun K => solve_Pivot.l1 K ls n y' π mk n ((s + 1 : Nat) : Int) G' n n n e') ρ → Ev (fun K => solve_Pivot.l7 K ls n y π mk s i n s G n n n e) ρ := by
  intro t
  induction t with
  | zero =>
    intro i h1 h2 h3 e y G he
    obtain rfl : i = n := by omega
    refine ⟨e, y, G, he, fun ρ ev => Ev.succ ?_⟩
    simp only [solve_Pivot.l7]
    rw [wn (by omega)]
    exact Ev.neg (by omega) ev
  | succ t ih =>
    intro i h1 h2 h3 e y G he
    have hi : i < n := by omega
    have e1 : at4 n n n e i s = at4 n n n d i s := by rw [he.a i s hi hs, if_neg (by omega)]
    have e2 : at4 n n n e s s = at4 n n n d s s := by rw [he.a s s hs hs, if_neg (by omega)]
    have e3 : ∀ b, b < n → at4 n n n e i b = at4 n n n d i b := fun b hb => by rw [he.a i b hi hb, if_neg (by omega)]
    have e4 : ∀ b, b < n → at4 n n n e s b = at4 n n n d s b := fun b hb => by rw [he.a s b hs hb, if_neg (by omega)]
    have x1 : rd y (i : Int) = rd x (i : Int) := by rw [he.ax i hi, if_neg (by omega)]
    have x2 : rd y (s : Int) = rd x (s : Int) := by rw [he.ax s hs, if_neg (by omega)]
    have u1 := at_U (r := (n : Int)) (c := (n : Int)) (s := (n : Int)) hd.2 (s : Int) (s : Int)
    have u2 := at_U (r := (n : Int)) (c := (n : Int)) (s := (n : Int)) hd.2 (i : Int) (s : Int)
    have uq := cD_U (F := G) u2 u1
    obtain ⟨e', G', h', go⟩ := off_l8 hn hs he.w (ls := ls) (x := y) (π := π) (mk := mk) (F := (cD G (at4 n n n d i s) (at4 n n n d s s)).2) uq he.wx h2 hi (n - (s + 1)) (s + 1) rfl (by omega) (by omega) e (cD G (at4 n n n d i s) (at4 n n n d s s)).2
      ⟨he.w, fun a b ha hb => by rw [if_neg (by omega)], fun hc => ⟨hc, fun b b1 b2 => by omega⟩⟩
    have elq : ∀ b, s < b → b < n → el e n s (quo d n s i) i b = el d n s (quo d n s i) i b := fun b _ hb => by unfold el; rw [e3 b hb, e4 b hb]
    have xlq : xl y s (quo d n s i) i = xl x s (quo d n s i) i := by unfold xl; rw [x1, x2]
    have hl := he.wx.1
    have ux : U (xl x s (quo d n s i) i) := av_U (rd_U wx.2 i) (U_flip (mv_U uq (rd_U wx.2 s)))
    obtain ⟨e'', y'', G'', h'', go2⟩ := ih (i + 1) (by omega) (by omega) (by omega) e' (y.set i (xl y s (quo d n s i) i)) (cS (cM G' (quo d n s i) (rd y (s : Int))).2 (rd y (i : Int)) (mv (quo d n s i) (rd y (s : Int)))).2 ⟨h'.w, by rw [xlq]; exact he.wx.set _ ux, fun a b ha hb => by
      rw [h'.a a b ha hb]
      by_cases c : a = i
      · subst c
        by_cases c2 : s < b
        · rw [if_pos ⟨rfl, c2, hb⟩, if_pos ⟨h2, by omega, c2⟩]; exact elq b c2 hb
        · rw [if_neg (by omega), if_neg (by omega), e3 b hb]
      · rw [if_neg (by omega), he.a a b ha hb]
        by_cases c2 : s < a ∧ a < i ∧ s < b
        · rw [if_pos c2, if_pos (by omega)]
        · rw [if_neg c2, if_neg (by omega)], fun a ha => by
      rw [rd_set (by omega)]
      by_cases c : i = a
      · subst c
        rw [if_pos rfl, if_pos (by omega), xlq]
      · rw [if_neg c, he.ax a ha]
        by_cases c2 : s < a ∧ a < i
        · rw [if_pos c2, if_pos (by omega)]
        · rw [if_neg c2, if_neg (by omega)], fun hc => by
      obtain ⟨c1, c2⟩ := cS_clean hc
      obtain ⟨c3, c4⟩ := cM_clean c1
      obtain ⟨c5, c6⟩ := h'.c c3
      obtain ⟨c7, c8⟩ := cD_clean c5
      obtain ⟨c9, c10⟩ := he.c c7
      refine ⟨c9, fun a a1 a2 => ?_⟩
      by_cases c : a = i
      · subst c
        refine ⟨c8, fun b b1 b2 => ?_, ?_⟩
        · have := c6 b b1 b2
          unfold cleanE at this ⊢
          rw [e3 b b2, e4 b b2] at this
          exact this
        · unfold cleanX
          rw [x1, x2] at c2
          rw [x2] at c4
          exact ⟨c4, c2⟩
      · exact c10 a a1 (by omega)⟩
    refine ⟨e'', y'', G'', h'', fun ρ ev => Ev.succ ?_⟩
    have g := go ρ (go2 ρ ev)
    simp only [solve_Pivot.l7]
    rw [wn (by omega)]
    refine Ev.pos (by omega) (Ev.call (ap n hn e i s) (Ev.call (ap n hn e s s) ?_))
    rw [e1, e2]
    exact Ev.bind (cD_ev u2 u1) g
end
end

theorem rs_upd {g g' : Nat → Rat} {c : Nat} : ∀ m lo, lo ≤ c → c < lo + m → (∀ k, lo ≤ k → k < lo + m → k ≠ c → g' k = g k) → rs g' lo m = rs g lo m + (g' c - g c) := by
  intro m
  induction m with
  | zero => intro lo h1 h2; omega
  | succ m ih =>
    intro lo h1 h2 h
    simp only [rs]
    by_cases e : c = lo
    · subst e
      rw [rs_congr m (c + 1) (fun k a b => h k (by omega) (by omega) (by omega))]
      grind
    · rw [ih (lo + 1) (by omega) (by omega) (fun k a b n => h k (by omega) (by omega) n), h lo (by omega) (by omega) (fun x => e x.symm)]
      grind
theorem rs_sw {g : Nat → Rat} {s k lo m : Nat} (s0 : lo ≤ s) (s1 : s < lo + m) (k0 : lo ≤ k) (k1 : k < lo + m) : rs (fun j => g (sw s k j)) lo m = rs g lo m := by
  by_cases e : s = k
  · subst e
    refine rs_congr m lo fun j _ _ => ?_
    have : sw s s j = j := by unfold sw; split <;> (try split) <;> omega
    rw [this]
  · have a := rs_upd (g := g) (g' := fun j => if j = s then g k else g j) (c := s) m lo s0 s1 (fun j _ _ h => by rw [if_neg h])
    have b := rs_upd (g := fun j => if j = s then g k else g j) (g' := fun j => g (sw s k j)) (c := k) m lo k0 k1 (fun j _ _ h => by
      show g (sw s k j) = if j = s then g k else g j
      unfold sw
      by_cases c : j = s
      · rw [if_pos c, if_pos c]
      · rw [if_neg c, if_neg h, if_neg c])
    have e1 : sw s k k = s := by unfold sw; rw [if_neg (fun h => e h.symm), if_pos rfl]
    rw [b, a]
    show _ + _ + (g (sw s k k) - if k = s then g k else g k) = _
    rw [e1, if_pos rfl]
    have : (if k = s then g k else g k) = g k := by split <;> rfl
    rw [this]
    grind
theorem rs_swc {g g' : Nat → Rat} {s k lo m : Nat} (s0 : lo ≤ s) (s1 : s < lo + m) (k0 : lo ≤ k) (k1 : k < lo + m) (h : ∀ j, lo ≤ j → j < lo + m → g' j = g (sw s k j)) : rs g' lo m = rs g lo m :=
  (rs_congr m lo h).trans (rs_sw s0 s1 k0 k1)
theorem rs_split (g : Nat → Rat) : ∀ a lo b, rs g lo (a + b) = rs g lo a + rs g (lo + a) b := by
  intro a
  induction a with
  | zero => intro lo b; simp only [Nat.zero_add, Nat.add_zero, rs]; grind
  | succ a ih =>
    intro lo b
    rw [show a + 1 + b = (a + b) + 1 from by omega]
    simp only [rs]
    rw [ih (lo + 1) b, show lo + (a + 1) = lo + 1 + a from by omega]
    grind
theorem rs_bound {a z : Nat → Rat} {G : Rat} (hG : 0 ≤ G) : ∀ m lo, (∀ j, lo ≤ j → j < lo + m → rabs (a j) ≤ G) → rs (fun j => rabs (a j * z j)) lo m ≤ G * rs (fun j => rabs (z j)) lo m := by
  intro m
  induction m with
  | zero => intro lo _; simp only [rs]; grind
  | succ m ih =>
    intro lo h
    have h1 := ih (lo + 1) (fun j a b => h j (by omega) (by omega))
    have h2 := Rat.mul_le_mul_of_nonneg_right (h lo (by omega) (by omega)) (rabs_nonneg (z lo))
    simp only [rs]
    rw [rabs_mul]
    grind
theorem rs_lin {a a' b z : Nat → Rat} {f W : Rat} : ∀ m lo, (∀ j, lo ≤ j → j < lo + m → rabs (a j - (a' j + f * b j)) ≤ W) →
    rabs (rs (fun j => a j * z j) lo m - (rs (fun j => a' j * z j) lo m + f * rs (fun j => b j * z j) lo m)) ≤ W * rs (fun j => rabs (z j)) lo m := by
  intro m
  induction m with
  | zero =>
    intro lo _
    simp only [rs]
    have : (0 : Rat) - (0 + f * 0) = 0 := by grind
    rw [this, rabs_zero]; grind
  | succ m ih =>
    intro lo h
    have h1 := ih (lo + 1) (fun j a b => h j (by omega) (by omega))
    have h2 := Rat.mul_le_mul_of_nonneg_right (h lo (by omega) (by omega)) (rabs_nonneg (z lo))
    simp only [rs]
    have e : a lo * z lo + rs (fun j => a j * z j) (lo + 1) m - (a' lo * z lo + rs (fun j => a' j * z j) (lo + 1) m + f * (b lo * z lo + rs (fun j => b j * z j) (lo + 1) m)) =
        (a lo - (a' lo + f * b lo)) * z lo + (rs (fun j => a j * z j) (lo + 1) m - (rs (fun j => a' j * z j) (lo + 1) m + f * rs (fun j => b j * z j) (lo + 1) m)) := by grind
    rw [e]
    refine Rat.le_trans (rabs_add _ _) ?_
    rw [rabs_mul]
    grind
theorem ulp_small : ulp ≤ 1 / 1000 := by decide +kernel
/-- A product of small factors. -/
theorem f_le {f a G : Rat} (hf : rabs f ≤ 1) (ha : rabs a ≤ G) : rabs (f * a) ≤ G := by
  rw [rabs_mul]
  have := Rat.mul_le_mul_of_nonneg_right hf (rabs_nonneg a)
  grind
theorem ul {x y : Rat} (h : x ≤ y) : ulp * x ≤ ulp * y := Rat.mul_le_mul_of_nonneg_left h (Rat.le_of_lt ulp_pos)
theorem ule {x : Rat} (h : 0 ≤ x) : 0 ≤ ulp * x ∧ ulp * x ≤ x / 1000 := by
  refine ⟨Rat.mul_nonneg (Rat.le_of_lt ulp_pos) h, ?_⟩
  have := Rat.mul_le_mul_of_nonneg_right ulp_small h
  grind
section
variable {n s m : Nat} {ai bi as_ z ph : Nat → Rat} {xi yi xs f phx G Z ρ ρ' : Rat} (hf : rabs f ≤ 1) (h1 : rabs (as_ s * f - ai s) ≤ ulp * rabs (as_ s * f))
  (h2 : ∀ j, s + 1 ≤ j → j < s + 1 + m → rabs (ph j - f * as_ j) ≤ ulp * rabs (f * as_ j) ∧ rabs (bi j - (ai j - ph j)) ≤ ulp * rabs (bi j))
  (hG : ∀ j, s ≤ j → j < s + 1 + m → rabs (ai j) ≤ G ∧ rabs (as_ j) ≤ G)
include hf h2 hG
theorem stage_grow {j : Nat} (j0 : s + 1 ≤ j) (j1 : j < s + 1 + m) : rabs (bi j) ≤ 201 / 100 * G := by
  obtain ⟨a1, a2⟩ := h2 j j0 j1
  obtain ⟨g1, g2⟩ := hG j (by omega) j1
  have p := f_le hf g2
  have q := ul p
  have G0 : 0 ≤ G := Rat.le_trans (rabs_nonneg _) g1
  have g := ule G0
  have b := ule (rabs_nonneg (bi j))
  have c1 : rabs (ph j) ≤ rabs (f * as_ j) + rabs (ph j - f * as_ j) := by
    have := rabs_add (f * as_ j) (ph j - f * as_ j)
    rwa [show f * as_ j + (ph j - f * as_ j) = ph j from by grind] at this
  have c2 : rabs (bi j) ≤ rabs (bi j - (ai j - ph j)) + (rabs (ai j) + rabs (ph j)) := by
    have := rabs_add (bi j - (ai j - ph j)) (ai j - ph j)
    rw [show bi j - (ai j - ph j) + (ai j - ph j) = bi j from by grind] at this
    have t := rabs_add (ai j) (-ph j)
    rw [rabs_neg, show ai j + -ph j = ai j - ph j from by grind] at t
    grind
  grind
variable (hx1 : rabs (phx - f * xs) ≤ ulp * rabs (f * xs)) (hx2 : rabs (yi - (xi - phx)) ≤ ulp * rabs yi) (hZ : rs (fun j => rabs (z j)) s (m + 1) ≤ Z)
  (hr : rabs (rs (fun j => as_ j * z j) s (m + 1) - xs) ≤ ρ) (hr' : rabs (rs (fun j => bi j * z j) (s + 1) m - yi) ≤ ρ')
include h1 hx1 hx2 hZ hr hr'
theorem stage : rabs (rs (fun j => ai j * z j) s (m + 1) - xi) ≤ (1 + ulp) * (ρ + ρ') + 63 / 10 * (ulp * (G * Z)) := by
  have G0 : 0 ≤ G := Rat.le_trans (rabs_nonneg _) (hG s (by omega) (by omega)).1
  have W : ∀ j, s + 1 ≤ j → j < s + 1 + m → rabs (ai j - (bi j + f * as_ j)) ≤ 31 / 10 * (ulp * G) := by
    intro j j0 j1
    obtain ⟨a1, a2⟩ := h2 j j0 j1
    have gr := ul (stage_grow hf h2 hG j0 j1)
    have p := ul (f_le hf (hG j (by omega) j1).2)
    have uG := ule G0
    have t := rabs_add (-(bi j - (ai j - ph j))) (ph j - f * as_ j)
    rw [rabs_neg, show -(bi j - (ai j - ph j)) + (ph j - f * as_ j) = ai j - (bi j + f * as_ j) from by grind] at t
    grind
  have L := rs_lin (z := z) m (s + 1) W
  simp only [rs] at hZ hr ⊢
  have Zt0 := rs_nonneg (g := fun j => rabs (z j)) (fun k => rabs_nonneg _) m (s + 1)
  have zs0 := rabs_nonneg (z s)
  have bS : rabs (rs (fun j => bi j * z j) (s + 1) m) ≤ 201 / 100 * G * rs (fun j => rabs (z j)) (s + 1) m :=
    Rat.le_trans (rs_rabs _ m (s + 1)) (rs_bound (by grind) m (s + 1) (fun j a b => stage_grow hf h2 hG a b))
  have aS : rabs (rs (fun j => as_ j * z j) (s + 1) m) ≤ G * rs (fun j => rabs (z j)) (s + 1) m :=
    Rat.le_trans (rs_rabs _ m (s + 1)) (rs_bound G0 m (s + 1) (fun j a b => (hG j (by omega) b).2))
  have az : rabs (as_ s * z s) ≤ G * rabs (z s) := by
    rw [rabs_mul]
    exact Rat.mul_le_mul_of_nonneg_right (hG s (by omega) (by omega)).2 zs0
  generalize rs (fun j => ai j * z j) (s + 1) m = Si at L ⊢
  generalize rs (fun j => bi j * z j) (s + 1) m = Sb at L hr' bS
  generalize rs (fun j => as_ j * z j) (s + 1) m = Ss at L hr aS
  generalize rs (fun j => rabs (z j)) (s + 1) m = Zt at L hZ bS aS Zt0
  -- the numbers on the right
  have ys : rabs yi ≤ ρ' + 201 / 100 * G * Zt := by
    have t := rabs_add Sb (-(Sb - yi))
    rw [rabs_neg, show Sb + -(Sb - yi) = yi from by grind] at t
    grind
  have xb : rabs xs ≤ ρ + (G * rabs (z s) + G * Zt) := by
    have t := rabs_add (as_ s * z s + Ss) (-(as_ s * z s + Ss - xs))
    rw [rabs_neg, show as_ s * z s + Ss + -(as_ s * z s + Ss - xs) = xs from by grind] at t
    have t2 := rabs_add (as_ s * z s) Ss
    grind
  have uy := ul ys
  have ux := ul (f_le hf xb)
  have c1 : rabs ((ai s - as_ s * f) * z s) ≤ ulp * G * rabs (z s) := by
    have a := f_le hf (hG s (by omega) (by omega)).2
    rw [Rat.mul_comm] at a
    have b := Rat.le_trans h1 (ul a)
    rw [rabs_mul, ← rabs_neg, show -(ai s - as_ s * f) = as_ s * f - ai s from by grind]
    exact Rat.mul_le_mul_of_nonneg_right b zs0
  have fr : rabs (f * (as_ s * z s + Ss - xs)) ≤ ρ := f_le hf hr
  have e : ai s * z s + Si - xi = (Sb - yi) + f * (as_ s * z s + Ss - xs) + ((ai s - as_ s * f) * z s + (Si - (Sb + f * Ss)) + ((yi - (xi - phx)) + -(phx - f * xs))) := by grind
  rw [e]
  have t1 := rabs_add ((Sb - yi) + f * (as_ s * z s + Ss - xs)) ((ai s - as_ s * f) * z s + (Si - (Sb + f * Ss)) + ((yi - (xi - phx)) + -(phx - f * xs)))
  have t2 := rabs_add (Sb - yi) (f * (as_ s * z s + Ss - xs))
  have t3 := rabs_add ((ai s - as_ s * f) * z s + (Si - (Sb + f * Ss))) ((yi - (xi - phx)) + -(phx - f * xs))
  have t4 := rabs_add ((ai s - as_ s * f) * z s) (Si - (Sb + f * Ss))
  have t5 := rabs_add (yi - (xi - phx)) (-(phx - f * xs))
  rw [rabs_neg] at t5
  -- all together
  have GZ : G * (rabs (z s) + Zt) ≤ G * Z := Rat.mul_le_mul_of_nonneg_left hZ G0
  have uGZ := ul GZ
  have p1 : 0 ≤ ulp * (G * rabs (z s)) := (ule (Rat.mul_nonneg G0 zs0)).1
  have p2 : 0 ≤ ulp * (G * Zt) := (ule (Rat.mul_nonneg G0 Zt0)).1
  generalize rabs ((Sb - yi) + f * (as_ s * z s + Ss - xs) + ((ai s - as_ s * f) * z s + (Si - (Sb + f * Ss)) + ((yi - (xi - phx)) + -(phx - f * xs)))) = T at t1 ⊢
  have q1 : ulp * G * rabs (z s) = ulp * (G * rabs (z s)) := by grind
  have q2 : 31 / 10 * (ulp * G) * Zt = 31 / 10 * (ulp * (G * Zt)) := by grind
  have q3 : ulp * (ρ' + 201 / 100 * G * Zt) = ulp * ρ' + 201 / 100 * (ulp * (G * Zt)) := by grind
  have q4 : ulp * (ρ + (G * rabs (z s) + G * Zt)) = ulp * ρ + (ulp * (G * rabs (z s)) + ulp * (G * Zt)) := by grind
  have q5 : ulp * (G * (rabs (z s) + Zt)) = ulp * (G * rabs (z s)) + ulp * (G * Zt) := by grind
  have q6 : (1 + ulp) * (ρ + ρ') = ρ + ρ' + (ulp * ρ + ulp * ρ') := by grind
  rw [q1] at c1
  rw [q2] at L
  rw [q3] at uy
  rw [q4] at ux
  rw [q5] at uGZ
  rw [q6]
  generalize ulp * (G * rabs (z s)) = A1 at *
  generalize ulp * (G * Zt) = A2 at *
  generalize ulp * (G * Z) = A3 at *
  generalize ulp * ρ = A4 at *
  generalize ulp * ρ' = A5 at *
  grind
end
end Gim
namespace Gim
open Go Go.RowKit Go.Proofs.YtikebaljjclbnaaDoorW.PrintWords Go.Proofs.YtikebaljjclbnaaDoorW.PrintLast Go.Proofs.YtikebaljjclbnaaDoorW.PrintMore Go.Proofs.YtikebaljjclbnaaDoor.F
set_option linter.unusedVariables false

/-- What stands in a matrix, by natural numbers. -/
def atN (r c s : Int) (d : List Int) (i k : Nat) : Int := at4 r c s d i k
theorem clone_l1 {R C : Nat} (hR : R ≤ 4096) (hC : C ≤ 4096) {s : Int} (hs : s ≤ 1099511627776) (d : List Int) {ρ : Int × Int × Int × List Int} {i : Nat} (hi : i < R)
    (hk : Ev (fun K => mat_Matrix_Clone.l0 K R ((i : Int) + 1) R C s d R C C (part R C (atN R C s d) ((i + 1) * C))) ρ) :
    ∀ n k : Nat, C - k = n → k ≤ C → Ev (fun K => mat_Matrix_Clone.l1 K i R i C k R C s d R C C (part R C (atN R C s d) (i * C + k))) ρ := by
  intro n
  induction n with
  | zero =>
    intro k h1 h2
    obtain rfl : k = C := by omega
    refine Ev.succ ?_
    simp only [mat_Matrix_Clone.l1]
    refine Ev.neg (by omega) ?_
    rw [w64 (by omega) (by omega), row_end]
    exact hk
  | succ n ih =>
    intro k h1 h2
    refine Ev.succ ?_
    simp only [mat_Matrix_Clone.l1]
    refine Ev.pos (by omega) (Ev.call (at_eq ⟨by omega, by omega, hs⟩ d i k) (Ev.call (set_eq (Sm.nat hR hC) _ i k _) ?_))
    rw [w64 (by omega) (by omega), show at4 (R : Int) (C : Int) s d i k = atN R C s d i k from rfl, set_part hi (by omega)]
    have := ih (k + 1) (by omega) (by omega)
    exact this
theorem clone_l0 {R C : Nat} (hR : R ≤ 4096) (hC : C ≤ 4096) {s : Int} (hs : s ≤ 1099511627776) (d : List Int) :
    ∀ n i : Nat, R - i = n → i ≤ R → Ev (fun K => mat_Matrix_Clone.l0 K R i R C s d R C C (part R C (atN R C s d) (i * C))) ((R : Int), (C : Int), (C : Int), gat R C (atN R C s d)) := by
  intro n
  induction n with
  | zero =>
    intro i h1 h2
    obtain rfl : i = R := by omega
    refine Ev.succ ?_
    simp only [mat_Matrix_Clone.l0]
    refine Ev.neg (by omega) ?_
    rw [part_full]
    exact Ev.now _
  | succ n ih =>
    intro i h1 h2
    refine Ev.succ ?_
    simp only [mat_Matrix_Clone.l0]
    refine Ev.pos (by omega) ?_
    have := clone_l1 hR hC hs d (ρ := ((R : Int), (C : Int), (C : Int), gat R C (atN R C s d))) (i := i) (by omega) (ih (i + 1) (by omega) (by omega)) C 0 (by omega) (by omega)
    exact this
theorem clone_ev {R C : Nat} (hR : R ≤ 4096) (hC : C ≤ 4096) {s : Int} (hs : s ≤ 1099511627776) (d : List Int) :
    Ev (fun K => mat_Matrix_Clone.f K R C s d) ((R : Int), (C : Int), (C : Int), gat R C (atN R C s d)) := by
  unfold mat_Matrix_Clone.f
  refine Ev.call (new_eq hR hC) ?_
  have := clone_l0 hR hC hs d R 0 (by omega) (by omega)
  rw [Nat.zero_mul, part_zero] at this
  exact this
end Gim
