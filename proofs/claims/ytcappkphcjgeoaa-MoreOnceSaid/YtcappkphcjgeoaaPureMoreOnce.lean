/- MoreOnce: a product without a sum, and a sum without a product, are those of layer 4; a number lies between the squares of its root's neighbours. -/
import Derived.Test.YtcappkphcjgeoaaTFma
import Derived.Test.YtcappkphcjgeoaaTSqrt
import Derived.Test.YtcappkphcjgeoaaTFlip
import Derived.Test.YtcappkphcjgeoaaFx5
import Derived.Test.YtcappkphcjgeoaaFx24
namespace Go.Proofs.Ytcappkphcjgeoaa.Pure
open Gim Go.RowKit Go.Proofs.Ytcappkphcjgeoaa.F Go.Proofs.YtcappkphcjgeoaaW.PrintWords Go.Proofs.YtcappkphcjgeoaaW.PrintLast
set_option linter.unusedVariables false

theorem head_ok : gimballaw05_head.f 100 = some true := by decide +kernel
theorem head_ev : Ev (fun k => gimballaw05_head.f k) true := Ev.of (fun k => gimballaw05_head.mono k) head_ok

def ONE : Int := 4607182418800017408
theorem U_ONE : U ONE := ⟨by decide, by decide⟩
theorem val_ONE : val ONE = 1 := by
  have e1 : neg ONE = false := by decide
  have e2 : mag ONE = 4607182418800017408 := by decide
  unfold val vm
  rw [e1, e2, show mant 4607182418800017408 = p2 52 from by decide, show expo 4607182418800017408 = -52 from by decide, ← pw_p2 (by decide), ← pw_add]
  exact pw_zero
/-- Times one, and a sum: the sum. -/
theorem fma_one {a b r f r' f' : Int} (ha : U a) (h : FmaR a ONE b r f) (h' : AddR a b r' f') : r = r' ∧ f = f' := by
  have i1 : infZero a ONE = false := by unfold infZero; rw [show mag ONE = 4607182418800017408 from by decide]; simp; unfold INF; omega
  have n1 : isNan ONE = false := by decide
  have s1 : signals ONE = false := by decide
  have m1 : ¬ mag ONE = INF := by decide
  have g1 : neg ONE = false := by decide
  unfold FmaR at h
  rw [i1, n1, s1, g1, if_neg (by decide)] at h
  simp only [Bool.or_false, Bool.bne_false, m1, or_false] at h
  by_cases hn : (isNan a || isNan b) = true
  · unfold AddR nanF at h'
    rw [if_pos hn] at h h'
    omega
  · rw [if_neg hn] at h
    obtain ⟨hn0, na, nb⟩ := nan_or hn
    by_cases ia : mag a = INF
    · rw [if_pos ia] at h
      have e : signed (neg a) INF = a := by rw [← ia]; exact signed_eta ha
      rw [e] at h
      exact h.unique h'
    · rw [if_neg ia] at h
      by_cases ib : mag b = INF
      · rw [if_pos ib] at h
        unfold AddR at h'
        rw [if_neg hn, if_neg ia, if_pos ib] at h'
        omega
      · rw [if_neg ib, val_ONE] at h
        have h2 := (AddR.fin (fin_of na ia) (fin_of nb ib)).mp h'
        rw [show val a * 1 + val b = val a + val b from by grind] at h
        exact h.unique h2
/-- A product, and zero: the product. -/
theorem fma_zero {a b r f r' f' : Int} (h : FmaR a b (signed (neg a != neg b) 0) r f) (h' : MulR a b r' f') : r = r' ∧ f = f' := by
  obtain ⟨s1, s2, s3, s4⟩ := signals_signed (neg a != neg b)
  have mz : mag (signed (neg a != neg b) 0) = 0 := mag_signed (by decide) (by decide)
  have nz : neg (signed (neg a != neg b) 0) = (neg a != neg b) := neg_signed (by decide) (by decide)
  have vz : val (signed (neg a != neg b) 0) = 0 := val_zero_iff.mpr mz
  have fz : fin (signed (neg a != neg b) 0) := by unfold fin; rw [mz]; decide
  unfold FmaR at h
  rw [s2, s4] at h
  simp only [Bool.or_false] at h
  unfold MulR nanF at h'
  by_cases iz : infZero a b = true
  · have hn : ¬ (isNan a || isNan b) = true := by
      intro hn
      unfold infZero at iz; unfold isNan at hn
      simp at iz hn
      have := INF_lt
      omega
    rw [if_pos iz] at h
    rw [if_neg hn, if_pos iz] at h'
    omega
  · rw [if_neg iz] at h
    by_cases hn : (isNan a || isNan b) = true
    · rw [if_pos hn] at h h'
      omega
    · rw [if_neg hn] at h
      rw [if_neg hn, if_neg iz] at h'
      by_cases ii : mag a = INF ∨ mag b = INF
      · rw [if_pos ii] at h h'
        unfold AddR at h
        rw [s3, s4, if_neg (by decide), if_pos (mag_signed INF_lt.1 INF_lt.2), if_neg (show ¬ (mag (signed (neg a != neg b) 0) = INF ∧ signed (neg a != neg b) INF ≠ signed (neg a != neg b) 0) from by rw [mz]; rintro ⟨h, _⟩; revert h; decide)] at h
        omega
      · rw [if_neg ii] at h h'
        rw [if_neg (show ¬ mag (signed (neg a != neg b) 0) = INF from by rw [mz]; decide), vz, nz, Bool.and_self, show ∀ x : Rat, x + 0 = x from fun x => by grind] at h
        exact h.unique h'

theorem word_Next_pos {r : Int} (h0 : 0 < r) (h1 : r < INF) : Ev (fun k => word_Next.f k r) (r + 1) := by
  have hI : INF = 9218868437227405312 := rfl
  have ur : U r := ⟨by omega, by omega⟩
  have hm : mag r = r := by unfold mag; omega
  have hk := word_Kind_ev ur
  rw [kind_mag, hm] at hk
  unfold word_Next.f
  refine Ev.bind hk (Ev.neg (fun h => by have := (kind5 (by omega)).mp h; omega) ?_)
  rw [show (r == 9218868437227405312) = false from by simp; omega]
  refine Ev.succ ?_
  simp only [word_Next.j0]
  refine Ev.neg (by decide) (Ev.neg (by omega) (Ev.call (word_Neg_eq ur) (Ev.neg (by simp; omega) ?_)))
  rw [wu64 (by omega) (by omega)]
  exact Ev.now _
theorem word_Prev_pos {r : Int} (h0 : 0 < r) (h1 : r < INF) : Ev (fun k => word_Prev.f k r) (r - 1) := by
  have hI : INF = 9218868437227405312 := rfl
  have ur : U r := ⟨by omega, by omega⟩
  have hm : mag r = r := by unfold mag; omega
  have hk := word_Kind_ev ur
  rw [kind_mag, hm] at hk
  have ef : Gim.flip r = r + 9223372036854775808 := by unfold Gim.flip; rw [if_pos (by omega)]
  have uf : U (r + 9223372036854775808) := ⟨by omega, by omega⟩
  have hmf : mag (r + 9223372036854775808) = r := by unfold mag; omega
  have hkf := word_Kind_ev uf
  rw [kind_mag, hmf] at hkf
  have n5 : ¬ kindOf r = 5 := fun h => by have := (kind5 (by omega)).mp h; omega
  have hN : Ev (fun k => word_Next.f k (r + 9223372036854775808)) (r + 9223372036854775808 - 1) := by
    unfold word_Next.f
    refine Ev.bind hkf (Ev.neg n5 ?_)
    rw [show (r + 9223372036854775808 == 9218868437227405312) = false from by simp; omega]
    refine Ev.succ ?_
    simp only [word_Next.j0]
    refine Ev.neg (by decide) (Ev.neg (by omega) (Ev.call (word_Neg_eq uf) (Ev.pos (by simp; omega) ?_)))
    rw [wu64 (by omega) (by omega)]
    exact Ev.now _
  have u2 : U (r + 9223372036854775808 - 1) := ⟨by omega, by omega⟩
  unfold word_Prev.f
  refine Ev.bind hk (Ev.neg n5 (Ev.call (word_Flip_eq ur) ?_))
  rw [ef]
  refine Ev.bind hN (Ev.call (word_Flip_eq u2) (Ev.ofEq ?_))
  unfold Gim.flip; rw [if_neg (by omega)]; congr 1; omega

/-- The neighbours of a root, squared. -/
theorem root_between {a m f : Int} (h1 : 450359962737049600 ≤ a) (h2 : a < INF) (sq : SqX (vm a) m f) :
    2 ≤ m ∧ m + 1 < INF ∧ vm (m - 1) * vm (m - 1) < vm a ∧ pw (-1030) ≤ vm (m + 1) * vm (m + 1) - vm a := by
  have hI : INF = 9218868437227405312 := rfl
  have vpos := vm_pos (m := a) (by omega)
  -- bounds of the number
  have eexp : expo a = a / 4503599627370496 - 1075 := by unfold expo; rw [if_neg (by omega)]
  have emant : 4503599627370496 ≤ mant a ∧ mant a < 9007199254740992 := ⟨by unfold mant; rw [if_neg (by omega)]; omega, mant_lt⟩
  have hexp : -975 ≤ expo a ∧ expo a ≤ 971 := by omega
  have e52 : ((4503599627370496 : Int) : Rat) = pw 52 := by rw [pw_p2 (by decide)]; rfl
  have e53 : ((9007199254740992 : Int) : Rat) = pw 53 := by rw [pw_p2 (by decide)]; rfl
  have vlo : pw (-924) ≤ vm a := by
    have h := (mul_pw_le (e := expo a)).mpr emant.1
    rw [e52, ← pw_add] at h
    exact Rat.le_trans (pw_mono (by omega)) h
  have vhi : vm a ≤ pw 1024 := by
    have h := (mul_pw_lt (e := expo a)).mpr emant.2
    rw [e53, ← pw_add] at h
    exact Rat.le_of_lt (Std.lt_of_lt_of_le h (pw_mono (by omega)))
  -- bounds of the root
  have pat : ∀ e : Int, -1022 ≤ e → e ≤ 1023 → vm ((e + 1023) * 4503599627370496) = pw e ∧ 0 < (e + 1023) * 4503599627370496 ∧ (e + 1023) * 4503599627370496 < INF := by
    intro e h1 h2
    refine ⟨?_, by omega, by omega⟩
    unfold vm
    have em : mant ((e + 1023) * 4503599627370496) = 4503599627370496 := by unfold mant; rw [if_neg (by omega)]; omega
    have ee : expo ((e + 1023) * 4503599627370496) = e - 52 := by unfold expo; rw [if_neg (by omega)]; omega
    rw [em, ee, e52, ← pw_add]; exact congrArg pw (by omega)
  obtain ⟨pa, pb, pc⟩ := pat (-462) (by decide) (by decide)
  obtain ⟨qa, qb, qc⟩ := pat 512 (by decide) (by decide)
  have mlo : (-462 + 1023) * 4503599627370496 ≤ m := by
    obtain ⟨y, hy, rb⟩ := sq.ge (lo := pw (-462)) (Rat.le_of_lt (pw_pos _)) (by rw [← pw_add, show (-462 : Int) + -462 = -924 from by decide]; exact vlo)
    have s := RB.self pb pc
    rw [pa] at s
    exact s.mono rb hy
  have mhi : m ≤ (512 + 1023) * 4503599627370496 := by
    obtain ⟨y, hy, rb⟩ := sq.le (hi := pw 512) (Rat.le_of_lt (pw_pos _)) (by rw [← pw_add, show (512 : Int) + 512 = 1024 from by decide]; exact vhi)
    have s := RB.self qb qc
    rw [qa] at s
    exact rb.mono s hy
  have m2 : 2 ≤ m := by omega
  have m3 : m + 1 < INF := by omega
  have below : vm (m - 1) * vm (m - 1) < vm a := by
    refine Decidable.byContradiction fun hc => ?_
    obtain ⟨y, hy, rb⟩ := sq.le (hi := vm (m - 1)) (vm_nonneg (by omega)) (by grind)
    have := rb.mono (RB.self (m := m - 1) (by omega) (by omega)) hy
    omega
  have above : vm a < vm (m + 1) * vm (m + 1) := by
    refine Decidable.byContradiction fun hc => ?_
    obtain ⟨y, hy, rb⟩ := sq.ge (lo := vm (m + 1)) (vm_nonneg (by omega)) (by grind)
    have := (RB.self (m := m + 1) (by omega) m3).mono rb hy
    omega
  refine ⟨m2, m3, below, ?_⟩
  -- both are whole numbers times 2^-1030
  have hE : -515 ≤ expo (m + 1) := by unfold expo; rw [if_neg (by omega)]; omega
  have w1 : vm (m + 1) * vm (m + 1) = ((mant (m + 1) * mant (m + 1) * p2 (2 * expo (m + 1) + 1030) : Int) : Rat) * pw (-1030) := by
    have e : pw (expo (m + 1)) * pw (expo (m + 1)) = (p2 (2 * expo (m + 1) + 1030) : Rat) * pw (-1030) := by
      rw [← pw_p2 (by omega), ← pw_add, ← pw_add]; exact congrArg pw (by omega)
    unfold vm; push_cast; grind
  have w2 : vm a = ((mant a * p2 (expo a + 1030) : Int) : Rat) * pw (-1030) := by
    have e : pw (expo a) = (p2 (expo a + 1030) : Rat) * pw (-1030) := by rw [← pw_p2 (by omega), ← pw_add]; exact congrArg pw (by omega)
    unfold vm; rw [e]; push_cast; grind
  rw [w1, w2] at above
  have hlt := mul_pw_lt.mp above
  rw [w1, w2]
  generalize mant (m + 1) * mant (m + 1) * p2 (2 * expo (m + 1) + 1030) = X at *
  generalize mant a * p2 (expo a + 1030) = Y at *
  have := (mul_pw_le (a := 1) (b := X - Y) (e := -1030)).mpr (by omega)
  push_cast at this
  grind

theorem MoreOnce : gimballaw05_MoreOnce.Pure := by
  intro a b wa wb
  have ha := U_of_wf wa
  have hb := U_of_wf wb
  apply Ev.rounds
  unfold gimballaw05_MoreOnce.f
  obtain ⟨x, f, e1, R1⟩ := more_Fma_ev ha U_ONE hb
  obtain ⟨y, g, e2, R2⟩ := add_ev ha hb
  have hz : U (signed (neg a != neg b) 0) := U_signed (by decide) (by decide)
  obtain ⟨p, h, e3, R3⟩ := more_Fma_ev ha hb hz
  obtain ⟨q, i, e4, R4⟩ := mul_ev ha hb
  obtain ⟨rfl, rfl⟩ := fma_one ha R1 R2
  obtain ⟨rfl, rfl⟩ := fma_zero R3 R4
  have hN : ∀ {c : Int}, U c → word_Neg.f c = some (neg c) := fun h => word_Neg_eq h
  refine Ev.bind head_ev (Ev.pos rfl (Ev.bind e1 (Ev.bind e2 (Ev.call (hN ha) (Ev.call (hN hb) (Ev.call (make_zero _) (Ev.bind e3 (Ev.bind e4 (Ev.pos rfl ?_)))))))))
  dsimp only
  rw [show (f != f) = false from by simp]
  refine Ev.succ ?_
  simp only [gimballaw05_MoreOnce.j0]
  refine Ev.neg (by decide) (Ev.pos trivial ?_)
  rw [show (h != h) = false from by simp]
  refine Ev.succ ?_
  simp only [gimballaw05_MoreOnce.j1]
  have out : Ev (fun k => gimballaw05_MoreOnce.j2 k a true) true := by
    refine Ev.succ ?_
    simp only [gimballaw05_MoreOnce.j2]
    exact Ev.pos trivial (Ev.now _)
  refine Ev.neg (by decide) (Ev.call (hN ha) ?_)
  by_cases hn : neg a = true
  · exact Ev.pos hn out
  · refine Ev.neg hn (Ev.call (word_Finite_eq ha) ?_)
    by_cases fa : fin a
    · refine Ev.pos (decide_eq_true fa) (Ev.call (word_Exp_eq ha) ?_)
      by_cases he : a / 4503599627370496 % 2048 < 100
      · rw [decide_eq_true he]; exact out
      · rw [decide_eq_false he]
        have hn' : neg a = false := by simpa using hn
        have am : mag a = a := by
          unfold neg at hn'; have := of_decide_eq_false hn'
          obtain ⟨u0, u1⟩ := ha
          unfold mag; omega
        have hI : INF = 9218868437227405312 := rfl
        have a0 := ha.1
        have fa' : a < INF := by unfold fin at fa; rw [am] at fa; exact fa
        have a1 : 450359962737049600 ≤ a := by omega
        obtain ⟨r, j, er, Rr⟩ := more_Sqrt_ev ha
        unfold SqrtR at Rr
        rw [if_neg (by rw [fin_nan fa]; decide), if_neg (by rw [am]; omega), if_neg hn, am] at Rr
        obtain ⟨r2, r3, lo, hi⟩ := root_between a1 fa' Rr
        have ur : U r := ⟨by omega, by omega⟩
        have pos : ∀ c : Int, 0 < c → c < INF → U c ∧ fin c ∧ neg c = false ∧ val c = vm c := by
          intro c c0 c1
          have hm : mag c = c := by unfold mag; omega
          have hng : neg c = false := by unfold neg; exact decide_eq_false (by omega)
          refine ⟨⟨by omega, by omega⟩, by unfold fin; rw [hm]; exact c1, hng, ?_⟩
          unfold val; rw [hng, hm]; rfl
        obtain ⟨up, fp, np, vp⟩ := pos (r - 1) (by omega) (by omega)
        obtain ⟨un, fn, nn, vn⟩ := pos (r + 1) (by omega) r3
        obtain ⟨_, _, _, va⟩ := pos a (by omega) fa'
        have uf := U_flip ha
        have ff := fin_flip ha fa
        obtain ⟨L, l1, eL, RL⟩ := more_Fma_ev up up uf
        obtain ⟨H, l2, eH, RH⟩ := more_Fma_ev un un uf
        have RL' := (FmaR.fin fp fp ff).mp RL
        have RH' := (FmaR.fin fn fn ff).mp RH
        rw [vp, val_flip ha, va] at RL'
        rw [vn, val_flip ha, va] at RH'
        have hL : neg L = true := by
          rw [RL'.sign, if_neg (by grind)]; exact decide_eq_true (by grind)
        have hp := pw_pos (-1030)
        have hH : neg H = false := by
          rw [RH'.sign, if_neg (by grind)]; exact decide_eq_false (by grind)
        have hH0 : mag H ≠ 0 := by
          obtain ⟨t, rb, e⟩ := RH'.num (by grind)
          have ht := rb.range
          have := INF_lt
          rw [e, mag_signed ht.1 (by omega)]
          have hx : rabs (vm (r + 1) * vm (r + 1) + -vm a) = vm (r + 1) * vm (r + 1) - vm a := by unfold rabs; rw [if_neg (by grind)]; grind
          rw [hx] at rb
          have s : RB (vm 17592186044416) 17592186044416 0 := RB.self (by decide) (by decide)
          have vs : vm 17592186044416 = pw (-1030) := by
            unfold vm
            rw [show mant 17592186044416 = p2 44 from by decide, show expo 17592186044416 = -1074 from by decide, ← pw_p2 (by decide), ← pw_add]; rfl
          rw [vs] at s
          have := s.mono rb hi
          omega
        have uL := RL'.range.1
        have uH := RH'.range.1
        have kp := word_Prev_pos (r := r) (by omega) (by omega)
        have kn := word_Next_pos (r := r) (by omega) (by omega)
        refine Ev.succ ?_
        simp only [gimballaw05_MoreOnce.j2]
        refine Ev.neg (by decide) (Ev.bind er (Ev.bind kp (Ev.bind kp (Ev.call (word_Flip_eq ha) (Ev.bind eL (Ev.bind kn (Ev.bind kn (Ev.call (word_Flip_eq ha) (Ev.bind eH (Ev.call (hN uL) (Ev.pos hL (Ev.call (hN uH) (Ev.neg (by rw [hH]; decide) (Ev.call (word_Abs_eq uH) (Ev.ofEq ?_)))))))))))))))
        rw [show H % 9223372036854775808 = mag H from rfl]
        simpa using hH0
    · exact Ev.neg (by simpa using fa) out
end Go.Proofs.Ytcappkphcjgeoaa.Pure
