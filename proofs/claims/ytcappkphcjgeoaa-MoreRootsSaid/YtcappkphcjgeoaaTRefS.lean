/- Layer 5's reference: what a root is. -/
import Derived.Test.YtcappkphcjgeoaaTRef4
import Derived.Test.YtcappkphcjgeoaaTSqrt
import Derived.Test.YtcappkphcjgeoaaTRefP
import Derived.Test.YtcappkphcjgeoaaFx17
namespace Gim
open Go Go.RowKit Go.Proofs.YtcappkphcjgeoaaW.PrintWords Go.Proofs.YtcappkphcjgeoaaW.PrintLast Go.Proofs.YtcappkphcjgeoaaW.PrintMore Go.Proofs.Ytcappkphcjgeoaa.F
set_option linter.unusedVariables false

theorem ref_sqrt_loop {A : Int} (hA : 0 ≤ A) (bA : blen A ≤ 20000) (n : Nat) : n ≤ 10003 → ∀ R : Int, 0 ≤ R → R * R ≤ A → A < (R + p2 n) * (R + p2 n) →
    ∃ r, Ev (fun k => gimbalref02_Sqrt.l0 k (bl A) (bl R) ((n : Int) - 1)) (bl r) ∧ 0 ≤ r ∧ r * r ≤ A ∧ A < (r + 1) * (r + 1) := by
  have lA := bl_length hA
  have hAb : A < p2 20000 := by
    by_cases h : 0 < A
    · exact Int.lt_of_lt_of_le (blen_pos h).2.2 (p2_le bA)
    · have := p2_pos 20000; omega
  have small : ∀ R : Int, 0 ≤ R → R * R ≤ A → R < p2 10000 := by
    intro R hR h
    refine Decidable.byContradiction fun hc => ?_
    have h1 : p2 10000 * p2 10000 ≤ R * R := Int.mul_le_mul (by omega) (by omega) (Int.le_of_lt (p2_pos _)) hR
    rw [← p2_add (by decide) (by decide), show (10000 : Int) + 10000 = 20000 from by decide] at h1
    omega
  induction n with
  | zero =>
    intro _ R hR lo hi
    refine ⟨R, Ev.succ ?_, hR, lo, by rw [show p2 ((0 : Nat) : Int) = 1 from rfl] at hi; exact hi⟩
    simp only [gimbalref02_Sqrt.l0]
    exact Ev.neg (by omega) (Ev.now _)
  | succ m ih =>
    intro hn R hR lo hi
    have hp := p2_pos (m : Int)
    have hs : p2 ((m + 1 : Nat) : Int) = 2 * p2 m := by rw [← p2_succ (by omega)]; congr 1
    have e0 : ((m + 1 : Nat) : Int) - 1 = (m : Int) := by omega
    have bR := small R hR lo
    have b2 := p2_le (show (m : Int) ≤ 10003 by omega)
    have b3 := p2_le (show (10000 : Int) ≤ 10003 by decide)
    have b4 := p2_succ (a := 10003) (by decide)
    rw [show (10003 : Int) + 1 = 10004 from by decide] at b4
    have hX : 0 ≤ R + p2 m := by omega
    have bX : blen (R + p2 m) ≤ 10004 := blen_le (by decide) (by omega)
    have lR : blen R ≤ 10000 := blen_le (by decide) bR
    have lR' := bl_length hR
    have lm : blen (p2 (m : Int)) ≤ 10004 := blen_le (by decide) (by omega)
    have lm' := bl_length (Int.le_of_lt hp)
    have k1 := ref_up (a := [1]) (n := (m : Int)) two_pow_bits (by decide) (by omega)
    rw [bv_one, Int.one_mul] at k1
    have k2 := ref_add (a := bl R) (b := bl (p2 (m : Int))) (bl_bits _) (bl_bits _) (by omega) (by omega)
    rw [bv_bl hR, bv_bl (Int.le_of_lt hp)] at k2
    have k3 := ref_mulN hX hX (by omega) (by omega)
    have hXX : 0 ≤ (R + p2 m) * (R + p2 m) := Int.mul_nonneg hX hX
    have lXX := bl_length hXX
    have bXX : blen ((R + p2 m) * (R + p2 m)) ≤ 20008 := by
      refine blen_le (by decide) ?_
      have h1 : R + p2 m < p2 10004 := by omega
      have := mul_lt2 h1 h1 hX hX
      rw [← p2_add (by decide) (by decide)] at this
      exact this
    have k4 := ref_cmp (a := bl ((R + p2 m) * (R + p2 m))) (b := bl A) (bl_bits _) (bl_bits _) (by omega) (by omega)
    rw [bv_bl hXX, bv_bl hA] at k4
    have le := sgn_le (x := (R + p2 m) * (R + p2 m) - A)
    by_cases c : (R + p2 m) * (R + p2 m) - A ≤ 0
    · obtain ⟨r, er, rest⟩ := ih (by omega) (R + p2 m) hX (by omega) (by rw [show R + p2 m + p2 m = R + p2 ((m + 1 : Nat) : Int) from by omega]; exact hi)
      refine ⟨r, Ev.succ ?_, rest⟩
      simp only [gimbalref02_Sqrt.l0]
      rw [e0, w64 (x := (m : Int) - 1) (by omega) (by omega)]
      exact Ev.pos (by omega) (Ev.bind k1 (Ev.bind k2 (Ev.bind k3 (Ev.bind k4 (Ev.pos (le.mpr c) er)))))
    · obtain ⟨r, er, rest⟩ := ih (by omega) R hR lo (by omega)
      refine ⟨r, Ev.succ ?_, rest⟩
      simp only [gimbalref02_Sqrt.l0]
      rw [e0, w64 (x := (m : Int) - 1) (by omega) (by omega)]
      exact Ev.pos (by omega) (Ev.bind k1 (Ev.bind k2 (Ev.bind k3 (Ev.bind k4 (Ev.neg (fun hc => c (le.mp hc)) er)))))
theorem ref_sqrt {A : Int} (hA : 0 ≤ A) (bA : blen A ≤ 20000) : ∃ r, Ev (fun k => gimbalref02_Sqrt.f k (bl A)) (bl r) ∧ 0 ≤ r ∧ r * r ≤ A ∧ A < (r + 1) * (r + 1) := by
  have lA := bl_length hA
  have lb := blen_nonneg A
  have hAb : A < p2 (blen A) := by
    by_cases h : 0 < A
    · exact (blen_pos h).2.2
    · have := p2_pos (blen A); omega
  obtain ⟨r, er, rest⟩ := ref_sqrt_loop hA bA ((blen A / 2 + 2).toNat) (by omega) 0 (by decide) (by omega) (by
    have e : (((blen A / 2 + 2).toNat : Nat) : Int) = blen A / 2 + 2 := by omega
    rw [e, Int.zero_add, ← p2_add (by omega) (by omega)]
    have := p2_le (show blen A ≤ blen A / 2 + 2 + (blen A / 2 + 2) by omega)
    omega)
  refine ⟨r, ?_, rest⟩
  unfold gimbalref02_Sqrt.f
  have e : wrap64 (wrap64 (((bl A).length : Int) / 2) + 1) = (((blen A / 2 + 2).toNat : Nat) : Int) - 1 := by
    rw [lA, w64 (x := blen A / 2) (by omega) (by omega), w64 (by omega) (by omega)]; omega
  rw [e]
  rw [bl_zero] at er
  exact er

theorem ref_sqrt_fin {a : Int} (ha : U a) (fa : fin a) (h0 : mag a ≠ 0) : ∃ r f, Ev (fun k => gimbalref05_Sqrt.j0 k a false) (r, f) ∧ (neg a = true → r = QNAN ∧ f = 16) ∧ (neg a = false → SqX (vm (mag a)) r f) := by
  by_cases hn : neg a = true
  · refine ⟨QNAN, 16, Ev.succ ?_, fun _ => ⟨rfl, rfl⟩, fun h => by rw [hn] at h; cases h⟩
    simp only [gimbalref05_Sqrt.j0]
    exact Ev.neg (by decide) (Ev.call (ref_Neg ha) (Ev.pos hn (Ev.now _)))
  · have hn' : neg a = false := by simpa using hn
    obtain ⟨e1, e2⟩ := fin_expo fa
    have m0 := mant_pos (m := mag a) (by have := (mag_lt (a := a)).1; omega)
    have uM := mant_U a
    have bM := mant_blen a
    have hv : vm (mag a) = (mant (mag a) : Rat) * pw (expo (mag a)) := rfl
    have start : ∀ rf : Int × Int, Ev (fun k => gimbalref05_Sqrt.j1 k (expo (mag a) + 1074) (mant (mag a))) rf → Ev (fun k => gimbalref05_Sqrt.j0 k a false) rf := by
      intro rf h
      refine Ev.succ ?_
      simp only [gimbalref05_Sqrt.j0]
      refine Ev.neg (by decide) (Ev.call (ref_Neg ha) (Ev.neg hn (Ev.call (ref_Parts ha) ?_)))
      dsimp only
      exact ref_parts_step ha fa (g := fun k x y => gimbalref05_Sqrt.j1 k x y) h
    generalize mant (mag a) = M at *
    generalize expo (mag a) = E at *
    -- from an even power on
    have main : ∀ B p, 0 < B → blen B ≤ 54 → p % 2 = 0 → -1080 ≤ p → p ≤ 1000 → (M : Rat) * pw E = (B : Rat) * pw p →
        ∃ r f, Ev (fun k => gimbalref05_Sqrt.j2 k p (bl B)) (r, f) ∧ SqX (vm (mag a)) r f := by
      intro B p hB bB hev p1 p2' hBv
      have lB := bl_length (Int.le_of_lt hB)
      have k1 := ref_up (a := bl B) (n := 120) (bl_bits _) (by omega) (by decide)
      rw [bv_bl (Int.le_of_lt hB)] at k1
      have hA : 0 ≤ B * p2 120 := Int.mul_nonneg (Int.le_of_lt hB) (Int.le_of_lt (p2_pos _))
      have bA : blen (B * p2 120) ≤ 174 := by
        refine blen_le (by decide) ?_
        have h1 := (blen_pos hB).2.2
        have h2 := p2_le bB
        have h3 : B * p2 120 < p2 54 * p2 120 := Int.mul_lt_mul_of_pos_right (by omega) (p2_pos _)
        rw [← p2_add (by decide) (by decide)] at h3
        exact h3
      have lA := bl_length hA
      obtain ⟨r, er, r0, rlo, rhi⟩ := ref_sqrt hA (by omega)
      have r60 : p2 59 ≤ r := by
        refine Decidable.byContradiction fun hc => ?_
        have h1 : (r + 1) * (r + 1) ≤ p2 59 * p2 59 := Int.mul_le_mul (by omega) (by omega) (by omega) (Int.le_of_lt (p2_pos _))
        have h2 : 1 * p2 120 ≤ B * p2 120 := Int.mul_le_mul_of_nonneg_right (by omega) (Int.le_of_lt (p2_pos _))
        have e : p2 59 * p2 59 = p2 118 := by decide
        have e2 : p2 118 < p2 120 := by decide
        omega
      have r88 : r < p2 87 := by
        refine Decidable.byContradiction fun hc => ?_
        have h1 : p2 87 * p2 87 ≤ r * r := Int.mul_le_mul (by omega) (by omega) (Int.le_of_lt (p2_pos _)) r0
        have e : p2 87 * p2 87 = p2 174 := by decide
        have h2 : B * p2 120 < p2 174 := by
          have h1 := (blen_pos hB).2.2
          have h2 := p2_le bB
          have h3 : B * p2 120 < p2 54 * p2 120 := Int.mul_lt_mul_of_pos_right (by omega) (p2_pos _)
          rw [← p2_add (by decide) (by decide)] at h3
          exact h3
        omega
      have b54 : 54 ≤ blen r := by
        have h1 := blen_mono r60
        have h2 : blen (p2 59) = 60 := blen_unique (by decide) (by decide) (by decide)
        omega
      have bR : blen r ≤ 87 := blen_le (by decide) r88
      have lR := bl_length r0
      have k3 := ref_mulN r0 r0 (by omega) (by omega)
      have hXX : 0 ≤ r * r := Int.mul_nonneg r0 r0
      have lXX := bl_length hXX
      have bXX : blen (r * r) ≤ 174 := by have := blen_mono rlo; omega
      have k4 := ref_cmp (a := bl (r * r)) (b := bl (B * p2 120)) (bl_bits _) (bl_bits _) (by omega) (by omega)
      rw [bv_bl hXX, bv_bl hA] at k4
      have hpos : 0 < r := by have := p2_pos 59; omega
      have eD : wrap64 (wrap64 (Int.tdiv p 2) - 60) = p / 2 - 60 := by
        have : Int.tdiv p 2 = p / 2 := Int.tdiv_eq_ediv_of_dvd (Int.dvd_of_emod_eq_zero hev)
        rw [this, w64 (x := p / 2) (by omega) (by omega), w64 (by omega) (by omega)]
      have hvA : vm (mag a) = ((B * p2 120 : Int) : Rat) * pw (2 * (p / 2 - 60)) := by
        rw [hv, hBv]
        have : pw p = (p2 120 : Rat) * pw (2 * (p / 2 - 60)) := by rw [← pw_p2 (by decide), ← pw_add]; congr 1; omega
        rw [this]; push_cast; grind
      have mid : ((r : Rat) * pw (p / 2 - 60) < ((2 * r + 1 : Int) : Rat) * pw (p / 2 - 60 - 1)) ∧ (((2 * r + 1 : Int) : Rat) * pw (p / 2 - 60 - 1) < ((r + 1 : Int) : Rat) * pw (p / 2 - 60)) := by
        have e := pw_pred (p / 2 - 60)
        have hp := pw_pos (p / 2 - 60 - 1)
        rw [← e]; push_cast
        constructor <;> grind
      have step : ∀ (more : Bool) (m f : Int), (sgn (r * r - B * p2 120) != 0) = more → Ev (fun k => gimbalref03_Round.f k false (bl r) (p / 2 - 60) more) (signed false m, f) → Ev (fun k => gimbalref05_Sqrt.j2 k p (bl B)) (m, f) := by
        intro more m f hm ev
        refine Ev.succ ?_
        simp only [gimbalref05_Sqrt.j2]
        rw [eD]
        refine Ev.bind k1 (Ev.bind er (Ev.bind k3 (Ev.bind k4 ?_)))
        rw [hm]
        exact Ev.bind ev (Ev.now _)
      by_cases c : r * r = B * p2 120
      · obtain ⟨m, f, ev2, rb⟩ := ref_round_near false (W := r) (E := p / 2 - 60) (x := (r : Rat) * pw (p / 2 - 60)) hpos (by omega) (by omega) (by omega) false (fun _ => rfl) (fun h => by cases h)
        exact ⟨m, f, step false m f (by unfold sgn; rw [if_neg (by omega), if_pos (by omega)]; rfl) ev2, SqX.of hvA hpos b54 rlo rhi (fun _ => rb) (fun h => absurd c h)⟩
      · obtain ⟨m, f, ev2, rb⟩ := ref_round_near false (W := r) (E := p / 2 - 60) (x := ((2 * r + 1 : Int) : Rat) * pw (p / 2 - 60 - 1)) hpos (by omega) (by omega) (by omega) true (fun h => by cases h) (fun _ => ⟨mid, b54⟩)
        exact ⟨m, f, step true m f (by unfold sgn; rw [if_pos (by omega)]; rfl) ev2, SqX.of hvA hpos b54 rlo rhi (fun h => absurd h c) (fun _ => ⟨_, mid.1, mid.2, rb⟩)⟩
    have lM := bl_length uM.1
    have ep : wrap64 (E + 1074 - 1074) = E := by rw [w64 (by omega) (by omega)]; omega
    have kM := ref_of uM
    by_cases c : Int.tmod E 2 = 0
    · have hev : E % 2 = 0 := Int.emod_eq_zero_of_dvd (Int.dvd_of_tmod_eq_zero c)
      obtain ⟨r, f, ev, sq⟩ := main M E m0 (by omega) hev (by omega) (by omega) rfl
      refine ⟨r, f, start _ (Ev.succ ?_), fun h => absurd h hn, fun _ => sq⟩
      simp only [gimbalref05_Sqrt.j1]
      rw [ep]
      exact Ev.bind kM (Ev.pos c ev)
    · have hev : ¬ E % 2 = 0 := fun h => c (Int.tmod_eq_zero_of_dvd (Int.dvd_of_emod_eq_zero h))
      have k1 := ref_up (a := bl M) (n := 1) (bl_bits _) (by omega) (by decide)
      rw [bv_bl uM.1, p2_1] at k1
      obtain ⟨r, f, ev, sq⟩ := main (M * 2) (E - 1) (by omega) (blen_le (by decide) (by
        have h1 := (blen_pos m0).2.2
        have h2 := p2_le bM
        rw [show p2 54 = 2 * p2 53 from by decide]; omega)) (by omega) (by omega) (by omega) (by
        rw [← pw_pred E]; push_cast; grind)
      refine ⟨r, f, start _ (Ev.succ ?_), fun h => absurd h hn, fun _ => sq⟩
      simp only [gimbalref05_Sqrt.j1]
      rw [ep, w64 (x := E - 1) (by omega) (by omega)]
      exact Ev.bind kM (Ev.neg c (Ev.bind k1 ev))
/-- THE REFERENCE's ROOT. -/
theorem ref_sqrt_ev {a : Int} (ha : U a) : ∃ r f, Ev (fun k => gimbalref05_Sqrt.f k a) (r, f) ∧ SqrtR a r f := by
  unfold SqrtR
  by_cases h : isNan a = true
  · refine ⟨QNAN, _, ?_, by rw [if_pos h]; exact ⟨rfl, rfl⟩⟩
    unfold gimbalref05_Sqrt.f
    exact Ev.bind (ref_Nans1 ha) (Ev.pos h (Ev.now _))
  · have start : ∀ r : Int × Int, Ev (fun k => gimbalref05_Sqrt.j0 k a (decide (mag a = 0 ∨ a = INF))) r → Ev (fun k => gimbalref05_Sqrt.f k a) r := by
      intro r hr
      unfold gimbalref05_Sqrt.f
      refine Ev.bind (ref_Nans1 ha) (Ev.neg h (Ev.call (ref_IsZero ha) ?_))
      by_cases z : mag a = 0
      · rw [decide_eq_true (.inl z)] at hr
        exact Ev.pos (decide_eq_true z) hr
      · refine Ev.neg (by simpa using z) ?_
        have e : decide (mag a = 0 ∨ a = INF) = (a == 9218868437227405312) := by
          rw [Bool.eq_iff_iff]; simp [z, INF]
        rw [e] at hr
        exact hr
    by_cases c : mag a = 0 ∨ a = INF
    · refine ⟨a, 0, start _ (Ev.succ ?_), by rw [if_neg h, if_pos c]; exact ⟨rfl, rfl⟩⟩
      simp only [gimbalref05_Sqrt.j0]
      exact Ev.pos (decide_eq_true c) (Ev.now _)
    · rw [decide_eq_false c] at start
      by_cases fa : fin a
      · obtain ⟨r, f, ev, h1, h2⟩ := ref_sqrt_fin ha fa (fun hh => c (.inl hh))
        refine ⟨r, f, start _ ev, ?_⟩
        rw [if_neg h, if_neg c]
        by_cases hn : neg a = true
        · rw [if_pos hn]; exact h1 hn
        · rw [if_neg hn]; exact h2 (by simpa using hn)
      · have hn : neg a = true := by
          have hm : mag a = INF := by
            have h' : isNan a = false := by simpa using h
            unfold isNan at h'; unfold fin at fa; simp at h'; omega
          obtain ⟨a0, a1⟩ := ha
          unfold neg; unfold mag INF at hm
          refine decide_eq_true (Decidable.byContradiction fun hc => c (.inr ?_))
          unfold INF; omega
        refine ⟨QNAN, 16, start _ (Ev.succ ?_), by rw [if_neg h, if_neg c, if_pos hn]; exact ⟨rfl, rfl⟩⟩
        simp only [gimbalref05_Sqrt.j0]
        exact Ev.neg (by decide) (Ev.call (ref_Neg ha) (Ev.pos hn (Ev.now _)))
end Gim
