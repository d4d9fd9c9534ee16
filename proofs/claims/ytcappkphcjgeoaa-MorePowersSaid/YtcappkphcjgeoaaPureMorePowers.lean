/- MorePowers: times a power of two, and times another one, is times both, where nothing is lost; the root of a square is the number. -/
import Derived.Test.YtcappkphcjgeoaaTScale
import Derived.Test.YtcappkphcjgeoaaTMul
import Derived.Test.YtcappkphcjgeoaaTSqrt
import Derived.Test.YtcappkphcjgeoaaTRep
import Derived.Test.YtcappkphcjgeoaaFx5
import Derived.Test.YtcappkphcjgeoaaFx21
namespace Go.Proofs.Ytcappkphcjgeoaa.Pure
open Gim Go.RowKit Go.Proofs.Ytcappkphcjgeoaa.F Go.Proofs.YtcappkphcjgeoaaW.PrintWords Go.Proofs.YtcappkphcjgeoaaW.PrintLast
set_option linter.unusedVariables false

theorem head_ok : gimballaw05_head.f 100 = some true := by decide +kernel
theorem head_ev : Ev (fun k => gimballaw05_head.f k) true := Ev.of (fun k => gimballaw05_head.mono k) head_ok

/-- Between any bounds of the root lies a number that is rounded as the root is. -/
theorem SqX.between {v : Rat} {m f : Int} (h : SqX v m f) {lo hi : Rat} (l0 : 0 ≤ lo) (h0 : 0 ≤ hi) (hl : lo * lo < v) (hh : v < hi * hi) : ∃ y, lo < y ∧ y < hi ∧ RB y m f := by
  obtain ⟨W, E, w0, w1, wl, wh, ex, ne⟩ := h
  have q1 : 0 < (W : Rat) * pw E := by have := mul_pw_lt (a := 0) (b := W) (e := E); simpa using this.mpr w0
  have q3 : 0 < ((W + 1 : Int) : Rat) * pw E := by have := mul_pw_lt (a := 0) (b := W + 1) (e := E); simpa using this.mpr (by omega)
  generalize (W : Rat) * pw E = a at *
  generalize ((W + 1 : Int) : Rat) * pw E = b at *
  by_cases c : a * a = v
  · exact ⟨a, sq_lt l0 (by grind) (by grind), sq_lt (by grind) h0 (by grind), ex c⟩
  · have h1 : a < b := sq_lt (by grind) (by grind) (by grind)
    have h2 : a < hi := sq_lt (by grind) h0 (by grind)
    have h3 : lo < b := sq_lt l0 (by grind) (by grind)
    have h4 : lo < hi := sq_lt l0 h0 (by grind)
    have mid : ∀ {u w : Rat}, u < w → u < (u + w) / 2 ∧ (u + w) / 2 < w := by intro u w h; constructor <;> grind
    by_cases c1 : a ≤ lo <;> by_cases c2 : b ≤ hi
    · have := mid h3; exact ⟨(lo + b) / 2, by grind, by grind, ne c _ (by grind) (by grind)⟩
    · have := mid h4; exact ⟨(lo + hi) / 2, by grind, by grind, ne c _ (by grind) (by grind)⟩
    · have := mid h1; exact ⟨(a + b) / 2, by grind, by grind, ne c _ (by grind) (by grind)⟩
    · have := mid h2; exact ⟨(a + hi) / 2, by grind, by grind, ne c _ (by grind) (by grind)⟩

/-- A number between a pattern's half-way neighbours is rounded to it. -/
theorem Rnd.around {M e : Int} {y : Rat} (hM : 4503599627370496 < M) (hM' : M < 9007199254740992) (he : -1074 ≤ e) (h1 : ((2 * M - 1 : Int) : Rat) * pw (e - 1) < y) (h2 : y < ((2 * M + 1 : Int) : Rat) * pw (e - 1)) : Rnd y e M := by
  have hp := pw_pred e
  have h0 := pw_pos (e - 1)
  have m1 : ((2 * M - 1 : Int) : Rat) * pw e = 2 * (((2 * M - 1 : Int) : Rat) * pw (e - 1)) := by rw [← hp]; grind
  have m2 : ((2 * M + 1 : Int) : Rat) * pw e = 2 * (((2 * M + 1 : Int) : Rat) * pw (e - 1)) := by rw [← hp]; grind
  have b1 : ((2 * 4503599627370496 : Int) : Rat) * pw (e - 1) ≤ ((2 * M - 1 : Int) : Rat) * pw (e - 1) := mul_pw_le.mpr (by omega)
  have b2 : ((2 * M + 1 : Int) : Rat) * pw (e - 1) ≤ ((2 * 9007199254740992 : Int) : Rat) * pw (e - 1) := mul_pw_le.mpr (by omega)
  have c1 : ((2 * 4503599627370496 : Int) : Rat) * pw (e - 1) = ((4503599627370496 : Int) : Rat) * pw e := by rw [← hp]; push_cast; grind
  have c2 : ((2 * 9007199254740992 : Int) : Rat) * pw (e - 1) = ((9007199254740992 : Int) : Rat) * pw e := by rw [← hp]; push_cast; grind
  rw [c1] at b1
  rw [c2] at b2
  refine ⟨he, .inr (by grind), by grind, ?_, by rw [m2]; grind, by rw [m1]; grind, fun h => ?_, fun h => ?_⟩
  · have := mul_pw_lt (a := 0) (b := 4503599627370496) (e := e)
    have h3 := this.mpr (by decide)
    have e0 : ((0 : Int) : Rat) * pw e = 0 := by simp
    grind
  · rw [m2] at h; grind
  · rw [m1] at h; grind

theorem SqX.exact {v : Rat} {m f : Int} {a : Int} (h : SqX v m f) (ha : U a) (fa : fin a) (h0 : 0 < mag a) (hv : v = vm (mag a) * vm (mag a)) : m = mag a := by
  have p := vm_pos h0
  obtain ⟨W, E, w0, w1, wl, wh, ex, ne⟩ := h
  have q1 : 0 < (W : Rat) * pw E := by have := mul_pw_lt (a := 0) (b := W) (e := E); simpa using this.mpr w0
  have q3 : 0 < ((W + 1 : Int) : Rat) * pw E := by have := mul_pw_lt (a := 0) (b := W + 1) (e := E); simpa using this.mpr (by omega)
  have rs := RB.self h0 fa
  by_cases c : ((W : Rat) * pw E) * ((W : Rat) * pw E) = v
  · have e : (W : Rat) * pw E = vm (mag a) := by
      generalize (W : Rat) * pw E = b at *
      have l1 : ¬ b < vm (mag a) := fun h => by have := Rat.mul_lt_mul_of_pos_right h p; have := Rat.mul_lt_mul_of_pos_left h q1; grind
      have l2 : ¬ vm (mag a) < b := fun h => by have := Rat.mul_lt_mul_of_pos_right h q1; have := Rat.mul_lt_mul_of_pos_left h p; grind
      grind
    have := ex c
    rw [e] at this
    exact (this.unique rs).1
  · have l1 : (W : Rat) * pw E < vm (mag a) := sq_lt (by grind) (by grind) (by grind)
    have l2 : vm (mag a) < ((W + 1 : Int) : Rat) * pw E := sq_lt (by grind) (by grind) (by grind)
    exact ((ne c _ l1 l2).unique rs).1

/-- The root of a square that was rounded, but isn't tiny, is the number. -/
theorem root_square {a s i r f : Int} (ha : U a) (fa : fin a) (h0 : 0 < mag a) (rb : RB (vm (mag a) * vm (mag a)) s i) (hs : s < INF) (hi : i = 0 ∨ i = 1) (sq : SqX (vm s) r f) : r = mag a := by
  have m0 := mant_pos h0
  have m1 := mant_lt (m := mag a)
  obtain ⟨e1, e2⟩ := fin_expo fa
  have hv : vm (mag a) = (mant (mag a) : Rat) * pw (expo (mag a)) := rfl
  have hvv : vm (mag a) * vm (mag a) = ((mant (mag a) * mant (mag a) : Int) : Rat) * pw (2 * expo (mag a)) := by
    rw [hv, show 2 * expo (mag a) = expo (mag a) + expo (mag a) from by omega, pw_add]; push_cast; grind
  obtain ⟨q, n, hr, hb, hf⟩ := rb.ex
  have hlt : enc q n < INF := by
    refine Decidable.byContradiction fun hc => ?_
    rw [if_neg hc] at hf; omega
  rw [if_pos hlt] at hb hf
  have hval : vm s = (n : Rat) * pw q := by rw [hb]; exact hr.val_enc
  by_cases c : vm (mag a) * vm (mag a) = (n : Rat) * pw q
  · exact SqX.exact sq ha fa h0 (by rw [hval, c])
  · rw [if_neg c] at hf
    by_cases tiny : vm (mag a) * vm (mag a) < pw (-1022)
    · rw [if_pos tiny] at hf; omega
    · -- the square is no tiny number: the number is a normal one
      have h511 : ¬ vm (mag a) < pw (-511) := by
        intro h
        have p := vm_pos h0
        have e : pw (-1022) = pw (-511) * pw (-511) := by rw [← pw_add]; rfl
        have := Rat.mul_lt_mul_of_pos_right h p
        have := Rat.mul_lt_mul_of_pos_left h (pw_pos (-511))
        grind
      have mge : 4503599627370496 ≤ mant (mag a) := by
        rcases mant_ge (m := mag a) (by omega) with h | h
        · exfalso
          apply h511
          rw [hv, h]
          have h1 : (mant (mag a) : Rat) * pw (-1074) < ((9007199254740992 : Int) : Rat) * pw (-1074) := mul_pw_lt.mpr m1
          rw [show ((9007199254740992 : Int) : Rat) = pw 53 from by rw [pw_p2 (by decide)]; rfl, ← pw_add] at h1
          exact Std.lt_of_lt_of_le h1 (pw_mono (by decide))
        · exact h
      generalize hM : mant (mag a) = M at *
      generalize hE : expo (mag a) = E at *
      -- it isn't a power of two, whose square is exact
      have hMM0 : 0 < M * M := Int.mul_pos m0 m0
      -- where the last bit of the square stands
      have hq1 : q ≤ 2 * E + 53 := by
        refine Decidable.byContradiction fun hc => ?_
        have hq : q ≠ -1074 := by
          intro hq
          -- the square would lie beneath 2^-1022
          apply tiny
          have h1 : ((M * M : Int) : Rat) * pw (2 * E) < ((9007199254740992 * 9007199254740992 : Int) : Rat) * pw (2 * E) := mul_pw_lt.mpr (mul_lt2 m1 m1 (by omega) (by omega))
          rw [hvv]
          rw [show ((9007199254740992 * 9007199254740992 : Int) : Rat) = pw 106 from by rw [pw_p2 (by decide)]; rfl, ← pw_add] at h1
          exact Std.lt_of_lt_of_le h1 (pw_mono (by omega))
        have hlo := hr.lo.resolve_left hq
        rw [show ((4503599627370496 : Int) : Rat) = pw 52 from by rw [pw_p2 (by decide)]; rfl, ← pw_add] at hlo
        have h1 : ((M * M : Int) : Rat) * pw (2 * E) < ((9007199254740992 * 9007199254740992 : Int) : Rat) * pw (2 * E) := mul_pw_lt.mpr (mul_lt2 m1 m1 (by omega) (by omega))
        rw [show ((9007199254740992 * 9007199254740992 : Int) : Rat) = pw 106 from by rw [pw_p2 (by decide)]; rfl, ← pw_add, ← hvv] at h1
        have := pw_mono (show 106 + 2 * E ≤ 52 + q by omega)
        grind
      have hMne : M ≠ 4503599627370496 := by
        intro h
        -- exact then
        apply c
        have sq2 : vm (mag a) * vm (mag a) = pw (104 + 2 * E) := by
          rw [hvv, h, show ((4503599627370496 * 4503599627370496 : Int) : Rat) = pw 104 from by rw [pw_p2 (by decide)]; rfl, ← pw_add]
        have hself : Rnd (((4503599627370496 : Int) : Rat) * pw (52 + 2 * E)) (52 + 2 * E) 4503599627370496 := by
          refine Rnd.self ?_ (by decide) (by decide) (.inr (by decide))
          refine Decidable.byContradiction fun hc => ?_
          apply tiny
          rw [sq2]
          have := pw_lt (show 104 + 2 * E < -1022 by omega)
          have := pw_pos (104 + 2 * E)
          grind
        have e : ((4503599627370496 : Int) : Rat) * pw (52 + 2 * E) = vm (mag a) * vm (mag a) := by
          rw [sq2, show ((4503599627370496 : Int) : Rat) = pw 52 from by rw [pw_p2 (by decide)]; rfl, ← pw_add]; congr 1; omega
        rw [e] at hself
        obtain ⟨rfl, rfl⟩ := hr.unique hself
        exact e.symm
      have near1 := hr.near1
      have near2 := hr.near2
      -- half a last bit is at most 2^52 of the square's units
      have hhalf : pw q ≤ ((9007199254740992 : Int) : Rat) * pw (2 * E) := by
        rw [show ((9007199254740992 : Int) : Rat) = pw 53 from by rw [pw_p2 (by decide)]; rfl, ← pw_add]
        exact pw_mono (by omega)
      have d1 : 2 * (vm (mag a) * vm (mag a)) ≤ 2 * vm s + pw q := by rw [hval]; push_cast at near1; grind
      have d2 : 2 * vm s ≤ 2 * (vm (mag a) * vm (mag a)) + pw q := by rw [hval]; push_cast at near2; grind
      have he4 : pw (2 * E) = 4 * (pw (E - 1) * pw (E - 1)) := by
        rw [← pw_add, show 2 * E = 2 + (E - 1 + (E - 1)) from by omega, pw_add, show pw 2 = 4 from by rw [pw_p2 (by decide)]; rfl]
      have P := pw_pos (2 * E)
      have lo2 : (((2 * M - 1 : Int) : Rat) * pw (E - 1)) * (((2 * M - 1 : Int) : Rat) * pw (E - 1)) < vm s := by
        have e : (((2 * M - 1 : Int) : Rat) * pw (E - 1)) * (((2 * M - 1 : Int) : Rat) * pw (E - 1)) * 4 = (((2 * M - 1) * (2 * M - 1) : Int) : Rat) * pw (2 * E) := by rw [he4]; push_cast; grind
        have h1 : (((2 * M - 1) * (2 * M - 1) + 2 * 9007199254740992 : Int) : Rat) * pw (2 * E) < ((4 * (M * M) : Int) : Rat) * pw (2 * E) := mul_pw_lt.mpr (by
          have : (2 * M - 1) * (2 * M - 1) = 4 * (M * M) - 4 * M + 1 := by grind
          omega)
        have e2 : ((4 * (M * M) : Int) : Rat) * pw (2 * E) = 4 * (vm (mag a) * vm (mag a)) := by rw [hvv]; push_cast; grind
        have e3 : (((2 * M - 1) * (2 * M - 1) + 2 * 9007199254740992 : Int) : Rat) * pw (2 * E) = (((2 * M - 1) * (2 * M - 1) : Int) : Rat) * pw (2 * E) + 2 * (((9007199254740992 : Int) : Rat) * pw (2 * E)) := by push_cast; grind
        grind
      have hi2 : vm s < (((2 * M + 1 : Int) : Rat) * pw (E - 1)) * (((2 * M + 1 : Int) : Rat) * pw (E - 1)) := by
        have e : (((2 * M + 1 : Int) : Rat) * pw (E - 1)) * (((2 * M + 1 : Int) : Rat) * pw (E - 1)) * 4 = (((2 * M + 1) * (2 * M + 1) : Int) : Rat) * pw (2 * E) := by rw [he4]; push_cast; grind
        have h1 : ((4 * (M * M) + 2 * 9007199254740992 : Int) : Rat) * pw (2 * E) < (((2 * M + 1) * (2 * M + 1) : Int) : Rat) * pw (2 * E) := mul_pw_lt.mpr (by
          have : (2 * M + 1) * (2 * M + 1) = 4 * (M * M) + 4 * M + 1 := by grind
          omega)
        have e2 : ((4 * (M * M) + 2 * 9007199254740992 : Int) : Rat) * pw (2 * E) = 4 * (vm (mag a) * vm (mag a)) + 2 * (((9007199254740992 : Int) : Rat) * pw (2 * E)) := by rw [hvv]; push_cast; grind
        grind
      have pos : ∀ X : Int, 0 ≤ X → 0 ≤ (X : Rat) * pw (E - 1) := by
        intro X hX
        have := mul_pw_le (a := 0) (b := X) (e := E - 1)
        simpa using this.mpr hX
      obtain ⟨y, y1, y2, ry⟩ := SqX.between sq (pos _ (by omega)) (pos _ (by omega)) lo2 hi2
      have rn := Rnd.around (M := M) (e := E) (by omega) m1 (by omega) y1 y2
      obtain ⟨q', n', hr', hb', _⟩ := ry.ex
      have e : enc E M = mag a := by rw [← hM, ← hE]; exact enc_mant _ (by omega)
      obtain ⟨u1, u2⟩ := hr'.unique rn
      rw [u1, u2, e, if_pos (show mag a < INF from fa)] at hb'
      exact hb'

theorem u8_and2 (i : Int) (h : i = 0 ∨ i = 1) : Go.bits .and .u8 i 2 = 0 := by rcases h with rfl | rfl <;> decide
theorem MorePowers : gimballaw05_MorePowers.Pure := by
  intro a m n wa wm wn
  have ha := U_of_wf wa
  apply Ev.rounds
  unfold gimballaw05_MorePowers.f
  have em : bits .and .i64 m 1023 = m % 1024 := i64_and 10 (by decide) m
  have en : bits .and .i64 n 1023 = n % 1024 := i64_and 10 (by decide) n
  rw [em, en, w64 (x := m % 1024 - 512) (by omega) (by omega), w64 (x := n % 1024 - 512) (by omega) (by omega), w64 (x := m % 1024 - 512 + (n % 1024 - 512)) (by omega) (by omega)]
  have hm1 : -512 ≤ m % 1024 - 512 ∧ m % 1024 - 512 ≤ 511 := by omega
  have hn1 : -512 ≤ n % 1024 - 512 ∧ n % 1024 - 512 ≤ 511 := by omega
  generalize m % 1024 - 512 = M at *
  generalize n % 1024 - 512 = N at *
  have cl : ∀ c : Int, -1024 ≤ c → c ≤ 1022 → mx (-10000) (mn c 10000) = c := by intro c h1 h2; unfold mx mn; split <;> split <;> omega
  obtain ⟨x, f, e1, R1⟩ := more_Scale_ev ha M
  have hx := R1.range ha
  obtain ⟨y, g, e2, R2⟩ := more_Scale_ev hx N
  have hy := R2.range hx
  obtain ⟨z, h, e3, R3⟩ := more_Scale_ev ha (M + N)
  rw [cl _ (by omega) (by omega)] at R1 R2 R3
  refine Ev.bind head_ev (Ev.pos rfl (Ev.bind e1 (Ev.bind e2 (Ev.bind e3 ?_))))
  dsimp only
  -- the second part: the root of a square
  have second : Ev (fun k => gimballaw05_MorePowers.j0 k a false) true := by
    refine Ev.succ ?_
    simp only [gimballaw05_MorePowers.j0]
    obtain ⟨s, i, es, Rs⟩ := mul_ev ha ha
    have hs : U s := by
      by_cases fa : fin a
      · exact ((MulR.fin fa fa).mp Rs).range.1
      · unfold MulR at Rs
        split at Rs
        · rw [Rs.1]; exact ⟨by decide, by decide⟩
        · split at Rs
          · rw [Rs.1]; exact ⟨by decide, by decide⟩
          · split at Rs
            · rw [Rs.1]; exact U_signed INF_lt.1 INF_lt.2
            · exact Rs.range.1
    have out : Ev (fun k => gimballaw05_MorePowers.j1 k a s true) true := by
      refine Ev.succ ?_
      simp only [gimballaw05_MorePowers.j1]
      exact Ev.pos trivial (Ev.now _)
    refine Ev.neg (by decide) (Ev.bind es (Ev.call (word_Finite_eq hs) ?_))
    by_cases fs : fin s
    · refine Ev.pos (decide_eq_true fs) ?_
      by_cases hi : Go.bits .and .u8 i 2 = 0
      · refine Ev.pos hi (Ev.call (word_Finite_eq ha) ?_)
        by_cases fa : fin a
        · rw [decide_eq_true fa]
          refine Ev.succ ?_
          simp only [gimballaw05_MorePowers.j1]
          obtain ⟨r, j, er, Rr⟩ := more_Sqrt_ev hs
          refine Ev.neg (by decide) (Ev.bind er (Ev.call (word_Abs_eq ha) ?_))
          have main : r = mag a := by
            have Rs' := (MulR.fin fa fa).mp Rs
            by_cases h0 : mag a = 0
            · have hz : val a * val a = 0 := by rw [val_zero_iff.mpr h0]; grind
              obtain ⟨e, _⟩ := Rs'.zero hz
              have s0 : s = 0 := by rw [e]; cases neg a <;> rfl
              subst s0
              unfold SqrtR at Rr
              rw [if_neg (by decide), if_pos (.inl (by decide))] at Rr
              rw [Rr.1, h0]
            · have h0' : 0 < mag a := by have := (mag_lt (a := a)).1; omega
              have p := vm_pos h0'
              have hne : val a * val a ≠ 0 := by
                rw [val_eq]; have := Rat.mul_pos p p
                cases neg a <;> simp <;> grind
              obtain ⟨t, rb, e⟩ := Rs'.num hne
              have hr : rabs (val a * val a) = vm (mag a) * vm (mag a) := by rw [rabs_mul, rabs_val]
              rw [hr] at rb
              have hneg : decide (val a * val a < 0) = false := by
                apply decide_eq_false
                rw [val_eq]; have := Rat.mul_pos p p
                cases neg a <;> simp <;> grind
              rw [hneg] at e
              have et : s = t := by rw [e]; rfl
              subst et
              have rr := rb.range
              have hI := INF_lt
              have ms : mag s = s := by unfold mag; omega
              have ns : neg s = false := by unfold neg; exact decide_eq_false (by omega)
              have hi' : i = 0 ∨ i = 1 := by
                obtain ⟨q, n, _, _, hf⟩ := rb.ex
                have lt : s < INF := by unfold fin at fs; rw [ms] at fs; exact fs
                split at hf
                · split at hf
                  · exact .inl hf
                  · split at hf
                    · rw [hf] at hi; exact absurd hi (by decide)
                    · exact .inr hf
                · rw [hf] at *
                  rename_i hc
                  obtain ⟨q', n', hr', hb', hf'⟩ := rb.ex
                  split at hf'
                  · split at hf'
                    · omega
                    · split at hf' <;> omega
                  · rename_i hc'
                    rw [if_neg hc'] at hb'; omega
              by_cases s0 : s = 0
              · -- nothing of it is left: but then it's tiny
                exfalso
                subst s0
                obtain ⟨q, n, hr', hb', hf'⟩ := rb.ex
                have hv0 := hr'.val_enc
                have hlt : enc q n < INF := by
                  refine Decidable.byContradiction fun hc => ?_
                  rw [if_neg hc] at hb'; revert hb'; decide
                rw [if_pos hlt] at hb' hf'
                rw [← hb', vm_zero] at hv0
                have hp := hr'.pos
                rw [← hv0] at hf'
                have hd : pw (-1022) ≤ vm (mag a) * vm (mag a) → False := by
                  intro hge
                  have h1 : Rnd (vm 4503599627370496) (expo 4503599627370496) (mant 4503599627370496) := Rnd.of_vm (by decide)
                  have e : vm 4503599627370496 = pw (-1022) := by
                    unfold vm
                    rw [show mant 4503599627370496 = 4503599627370496 from by decide, show expo 4503599627370496 = -1074 from by decide, show ((4503599627370496 : Int) : Rat) = pw 52 from by rw [pw_p2 (by decide)]; rfl, ← pw_add]; rfl
                  rw [e] at h1
                  have := h1.enc_mono hr' hge
                  rw [enc_mant _ (by decide)] at this
                  omega
                split at hf'
                · rename_i hc; grind
                · split at hf'
                  · rcases hi' with h | h <;> omega
                  · exact hd (by grind)
              · unfold SqrtR at Rr
                have n1 : isNan s = false := fin_nan fs
                rw [if_neg (by rw [n1]; decide), if_neg (by rw [ms]; rintro (h | h); exact s0 h; unfold fin at fs; rw [ms] at fs; omega), if_neg (by rw [ns]; decide), ms] at Rr
                exact root_square ha fa h0' rb (by unfold fin at fs; rw [ms] at fs; exact fs) hi' Rr
          rw [main]
          exact Ev.ofEq (by simp [mag])
        · rw [decide_eq_false fa]; exact out
      · exact Ev.neg hi out
    · exact Ev.neg (by simpa using fs) out
  -- the first part: what a second product with a power of two makes
  by_cases f0 : f = 0
  · refine Ev.pos f0 ?_
    by_cases g0 : g = 0
    · refine Ev.pos g0 ?_
      subst f0; subst g0
      have key : (y = z ∨ isNan a = true) ∧ h = 0 := by
        unfold ScaleR at R1 R2 R3
        by_cases c1 : isNan a = true
        · rw [if_pos c1] at R1 R3
          exact ⟨.inr c1, by rw [R3.2]; exact R1.2.symm⟩
        · rw [if_neg c1] at R1 R3
          by_cases c2 : mag a = INF ∨ mag a = 0
          · rw [if_pos c2] at R1 R3
            obtain ⟨rfl, _⟩ := R1
            rw [if_neg c1, if_pos c2] at R2
            exact ⟨.inl (by rw [R2.1, R3.1]), R3.2⟩
          · rw [if_neg c2] at R1 R3
            have fa : fin a := fin_of (by simpa using c1) (fun hh => c2 (.inl hh))
            obtain ⟨v1, fx⟩ := R1.exact
            have ha0 : val a ≠ 0 := fun hh => c2 (.inr (val_zero_iff.mp hh))
            have nz : ∀ c : Int, val a * pw c ≠ 0 := by
              intro c hh
              have := pw_ne c
              rcases Rat.mul_eq_zero.mp hh with h | h
              · exact ha0 h
              · exact this h
            have hx0 : mag x ≠ 0 := fun hh => nz M (by rw [← v1]; exact val_zero_iff.mpr hh)
            rw [if_neg (by rw [fin_nan fx]; decide), if_neg (by rintro (hh | hh); exact not_inf fx hh; exact hx0 hh)] at R2
            obtain ⟨v2, fy⟩ := R2.exact
            have ev : val y = val a * pw (M + N) := by rw [v2, v1, pw_add]; grind
            obtain ⟨h1, h2⟩ := R3.of_exact hy fy ev
            exact ⟨.inl (h2 (nz _)).symm, h1⟩
      have j0 : Ev (fun k => gimballaw05_MorePowers.j0 k a (h != 0)) true := by
        rw [key.2]; exact second
      by_cases c : y = z
      · exact Ev.pos c j0
      · have hk := word_Kind_ev ha
        rw [kind_mag] at hk
        exact Ev.neg c (Ev.bind hk (Ev.pos (kind_nan.mpr (key.1.resolve_left c)) j0))
    · exact Ev.neg g0 second
  · exact Ev.neg f0 second
end Go.Proofs.Ytcappkphcjgeoaa.Pure
