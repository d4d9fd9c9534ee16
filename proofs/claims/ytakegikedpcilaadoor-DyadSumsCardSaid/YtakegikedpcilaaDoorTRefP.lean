/- The reference's product of lists of bits. -/
import Derived.Test.YtakegikedpcilaaDoorTRef2
import Derived.Test.YtakegikedpcilaaDoorFx11
namespace Gim
open Go Go.RowKit Go.Proofs.YtakegikedpcilaaDoorW.PrintWords Go.Proofs.YtakegikedpcilaaDoorW.PrintLast Go.Proofs.YtakegikedpcilaaDoorW.PrintMore Go.Proofs.YtakegikedpcilaaDoor.F
set_option linter.unusedVariables false


theorem ref_mul_loop {a b : List Int} (ha : Bits a) (hb : Bits b) (hLa : a.length ≤ 50000) (hLb : b.length ≤ 50000) (d : Nat) : ∀ i : Nat, i + d = a.length →
    Ev (fun k => gimbalref02_Mul.l0 k b (bl (bv (a.take i) * bv b)) a (a.length : Int) i) (bl (bv a * bv b)) := by
  have va := bv_lt ha
  have vb := bv_lt hb
  have va0 := bv_nonneg ha
  have vb0 := bv_nonneg hb
  induction d with
  | zero =>
    intro i hi
    refine Ev.succ ?_
    simp only [gimbalref02_Mul.l0]
    refine Ev.neg (by omega) ?_
    rw [List.take_of_length_le (by omega)]
    exact Ev.now _
  | succ d ih =>
    intro i hi
    have h := ih (i + 1) (by omega)
    have et := bv_take_succ (l := a) (n := i) (by omega)
    have hx := ha.at_ (i := (i : Int))
    have ti := bv_nonneg (ha.take i)
    have tl := bv_lt (ha.take i)
    refine Ev.succ ?_
    simp only [gimbalref02_Mul.l0]
    rw [w64 (x := (i : Int) + 1) (by omega) (by omega)]
    refine Ev.pos (by omega) (Ev.pos (by omega) (Ev.pos (by omega) ?_))
    by_cases c : rd a i = 1
    · have k1 := ref_up (a := b) (n := (i : Int)) hb (by omega) (by omega)
      rw [p2_pow] at k1
      have hT : 0 ≤ bv (a.take i) * bv b := Int.mul_nonneg ti vb0
      have hU : 0 ≤ bv b * 2 ^ i := Int.mul_nonneg vb0 (Int.le_of_lt (Int.pow_pos (by decide)))
      have lT := bl_length hT
      have lU := bl_length hU
      have bT : blen (bv (a.take i) * bv b) ≤ 100000 := by
        refine blen_le (by decide) ?_
        have e1 : bv (a.take i) < p2 50000 := by
          have := p2_le (show ((a.take i).length : Int) ≤ 50000 by rw [List.length_take]; omega)
          rw [p2_pow] at this; omega
        have e2 : bv b < p2 50000 := by
          have := p2_le (show (b.length : Int) ≤ 50000 by omega)
          rw [p2_pow] at this; omega
        have e3 := p2_add (a := 50000) (b := 50000) (by decide) (by decide)
        rw [show (50000 : Int) + 50000 = 100000 from by decide] at e3
        rw [e3]
        exact mul_lt2 e1 e2 ti vb0
      have bU : blen (bv b * 2 ^ i) ≤ 100000 := by
        refine blen_le (by decide) ?_
        have e2 : bv b < p2 50000 := by
          have := p2_le (show (b.length : Int) ≤ 50000 by omega)
          rw [p2_pow] at this; omega
        have e1 := p2_le (show (i : Int) ≤ 50000 by omega)
        rw [p2_pow] at e1
        have e3 := p2_add (a := 50000) (b := 50000) (by decide) (by decide)
        rw [show (50000 : Int) + 50000 = 100000 from by decide] at e3
        rw [e3]
        have e4 : (0 : Int) < 2 ^ i := Int.pow_pos (by decide)
        exact Int.lt_of_lt_of_le (Int.mul_lt_mul_of_pos_right e2 e4) (Int.mul_le_mul_of_nonneg_left e1 (Int.le_of_lt (p2_pos _)))
      have k2 := ref_add (a := bl (bv (a.take i) * bv b)) (b := bl (bv b * 2 ^ i)) (bl_bits _) (bl_bits _) (by omega) (by omega)
      rw [bv_bl hT, bv_bl hU] at k2
      have e : bv (a.take i) * bv b + bv b * 2 ^ i = bv (a.take (i + 1)) * bv b := by rw [et, c]; grind
      rw [e] at k2
      exact Ev.pos c (Ev.bind k1 (Ev.bind k2 h))
    · have c0 : rd a i = 0 := by omega
      have e : bv (a.take (i + 1)) = bv (a.take i) := by rw [et, c0]; omega
      rw [e] at h
      exact Ev.neg c h
theorem ref_mul {a b : List Int} (ha : Bits a) (hb : Bits b) (hLa : a.length ≤ 50000) (hLb : b.length ≤ 50000) : Ev (fun k => gimbalref02_Mul.f k a b) (bl (bv a * bv b)) := by
  unfold gimbalref02_Mul.f
  have := ref_mul_loop ha hb hLa hLb a.length 0 (by omega)
  simp only [List.take_zero, bv_nil, Int.zero_mul, bl_zero] at this
  exact this
/-- Products of whole numbers that aren't negative. -/
theorem ref_mulN {X Y : Int} (hX : 0 ≤ X) (hY : 0 ≤ Y) (bX : blen X ≤ 50000) (bY : blen Y ≤ 50000) : Ev (fun k => gimbalref02_Mul.f k (bl X) (bl Y)) (bl (X * Y)) := by
  have lX := bl_length hX
  have lY := bl_length hY
  have := ref_mul (a := bl X) (b := bl Y) (bl_bits _) (bl_bits _) (by omega) (by omega)
  rw [bv_bl hX, bv_bl hY] at this
  exact this

end Gim
