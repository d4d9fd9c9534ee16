/- What more.Sqrt answers: the root of a number, rounded; told by neighbours of the root. -/
import Derived.Test.YtkkfghecmhmdpaaTNear
import Derived.Test.YtkkfghecmhmdpaaTNan
import Derived.Test.YtkkfghecmhmdpaaTWMul
import Derived.Test.YtkkfghecmhmdpaaTCmp
import Derived.Test.YtkkfghecmhmdpaaFx7
namespace Gim
open Go Go.RowKit Go.Proofs.YtkkfghecmhmdpaaW.PrintWords Go.Proofs.YtkkfghecmhmdpaaW.PrintLast Go.Proofs.YtkkfghecmhmdpaaW.PrintMore Go.Proofs.Ytkkfghecmhmdpaa.F
set_option linter.unusedVariables false

/-- The root of v, rounded: W 2^E and (W+1) 2^E are its neighbours. -/
def SqX (v : Rat) (m f : Int) : Prop := ∃ W E : Int, 0 < W ∧ 54 ≤ blen W ∧ ((W : Rat) * pw E) * ((W : Rat) * pw E) ≤ v ∧ v < ((W + 1 : Int) * pw E) * ((W + 1 : Int) * pw E) ∧
  (((W : Rat) * pw E) * ((W : Rat) * pw E) = v → RB ((W : Rat) * pw E) m f) ∧ (((W : Rat) * pw E) * ((W : Rat) * pw E) ≠ v → ∀ y, (W : Rat) * pw E < y → y < (W + 1 : Int) * pw E → RB y m f)

theorem sq_lt {a b : Rat} (ha : 0 ≤ a) (hb : 0 ≤ b) (h : a * a < b * b) : a < b := by
  refine Decidable.byContradiction fun hc => ?_
  have h1 : b ≤ a := by grind
  have h2 := Rat.mul_le_mul_of_nonneg_right h1 hb
  have h3 := Rat.mul_le_mul_of_nonneg_left h1 ha
  grind
theorem SqX.unique {v : Rat} {m f m' f' : Int} (h : SqX v m f) (h' : SqX v m' f') : m = m' ∧ f = f' := by
  obtain ⟨W, E, w0, w1, lo, hi, ex, ne⟩ := h
  obtain ⟨W', E', w0', w1', lo', hi', ex', ne'⟩ := h'
  have p : ∀ {W E : Int}, 0 < W → 0 < (W : Rat) * pw E := by
    intro W E hW
    have := mul_pw_lt (a := 0) (b := W) (e := E)
    simpa using this.mpr hW
  have q1 := p (E := E) w0
  have q2 := p (E := E') w0'
  have q3 := p (E := E) (W := W + 1) (by omega)
  have q4 := p (E := E') (W := W' + 1) (by omega)
  generalize (W : Rat) * pw E = a at *
  generalize (W' : Rat) * pw E' = a' at *
  generalize ((W + 1 : Int) : Rat) * pw E = b at *
  generalize ((W' + 1 : Int) : Rat) * pw E' = b' at *
  have h1 : a < b := sq_lt (by grind) (by grind) (by grind)
  have h2 : a < b' := sq_lt (by grind) (by grind) (by grind)
  have h3 : a' < b := sq_lt (by grind) (by grind) (by grind)
  have h4 : a' < b' := sq_lt (by grind) (by grind) (by grind)
  by_cases c : a * a = v
  · by_cases c' : a' * a' = v
    · have e : a = a' := by
        have l1 : ¬ a < a' := fun h => by have := Rat.mul_lt_mul_of_pos_right h q2; have := Rat.mul_lt_mul_of_pos_left h q1; grind
        have l2 : ¬ a' < a := fun h => by have := Rat.mul_lt_mul_of_pos_right h q1; have := Rat.mul_lt_mul_of_pos_left h q2; grind
        grind
      subst e
      exact (ex c).unique (ex' c')
    · exact (ex c).unique (ne' c' a (sq_lt (by grind) (by grind) (by grind)) h2)
  · by_cases c' : a' * a' = v
    · exact (ne c a' (sq_lt (by grind) (by grind) (by grind)) h3).unique (ex' c')
    · -- a number between both pairs of neighbours
      have : ∃ y, a < y ∧ y < b ∧ a' < y ∧ y < b' := by
        have mid : ∀ {u w : Rat}, u < w → u < (u + w) / 2 ∧ (u + w) / 2 < w := by intro u w h; constructor <;> grind
        by_cases c1 : a ≤ a' <;> by_cases c2 : b ≤ b'
        · have := mid h3; exact ⟨(a' + b) / 2, by grind, by grind, by grind, by grind⟩
        · have := mid h4; exact ⟨(a' + b') / 2, by grind, by grind, by grind, by grind⟩
        · have := mid h1; exact ⟨(a + b) / 2, by grind, by grind, by grind, by grind⟩
        · have := mid h2; exact ⟨(a + b') / 2, by grind, by grind, by grind, by grind⟩
      obtain ⟨y, y1, y2, y3, y4⟩ := this
      exact (ne c y y1 y2).unique (ne' c' y y3 y4)

theorem wide_Sqrt_loop {h l : Int} (hh : U h) (hl : U l) (n : Nat) : n ≤ 64 → ∀ root : Int, 0 ≤ root → root % 2 ^ n = 0 → root + 2 ^ n ≤ 18446744073709551616 → root * root ≤ wv h l → wv h l < (root + 2 ^ n) * (root + 2 ^ n) →
    ∃ r, Ev (fun k => wide_Wide_Sqrt.l0 k root ((n : Int) - 1) h l) (r, decide (r * r = wv h l)) ∧ 0 ≤ r ∧ r < 18446744073709551616 ∧ r * r ≤ wv h l ∧ wv h l < (r + 1) * (r + 1) := by
  induction n with
  | zero =>
    intro _ root r0 rm r1 lo hi
    simp only [Int.pow_zero] at r1 hi
    obtain ⟨a, b, ew, u1, u2, ev⟩ := wide_Mul_eq (a := root) (b := root) ⟨r0, by omega⟩ ⟨r0, by omega⟩
    refine ⟨root, Ev.succ ?_, r0, by omega, lo, hi⟩
    simp only [wide_Wide_Sqrt.l0]
    refine Ev.neg (by omega) (Ev.call ew ?_)
    dsimp only
    have e : (a == h && b == l) = decide (root * root = wv h l) := by
      rw [Bool.eq_iff_iff]; simp
      rw [← ev]
      constructor
      · rintro ⟨rfl, rfl⟩; rfl
      · intro hc; exact wv_inj u1 u2 hh hl hc
    rw [e]
    exact Ev.now _
  | succ m ih =>
    intro hn root r0 rm r1 lo hi
    have hp : (0 : Int) < 2 ^ m := Int.pow_pos (by decide)
    have hs : (2 : Int) ^ (m + 1) = 2 * 2 ^ m := by rw [Int.pow_succ, Int.mul_comm]
    have es : shl .u64 1 (m : Int) = 2 ^ m := by
      rw [shl_u64 (by omega) (by omega), Int.one_mul]
      exact Int.emod_eq_of_lt (Int.le_of_lt hp) (by show (2 : Int) ^ m < _; omega)
    have eo : Go.bits .or .u64 root (2 ^ m) = root + 2 ^ m := u64_or (m + 1) r0 rm (by omega) (by omega) (by omega) (by omega)
    have e0 : ((m + 1 : Nat) : Int) - 1 = (m : Int) := by omega
    have rm' : root % 2 ^ m = 0 := by
      have := Int.emod_emod_of_dvd root (⟨2, by rw [hs, Int.mul_comm]⟩ : (2 : Int) ^ m ∣ 2 ^ (m + 1))
      rw [rm] at this; rw [← this]; simp
    obtain ⟨a, b, ew, u1, u2, ev⟩ := wide_Mul_eq (a := root + 2 ^ m) (b := root + 2 ^ m) ⟨by omega, by omega⟩ ⟨by omega, by omega⟩
    have kc := wide_Cmp_ev u1 u2 hh hl
    rw [ev] at kc
    have le := sgn_le (x := (root + 2 ^ m) * (root + 2 ^ m) - wv h l)
    by_cases c : (root + 2 ^ m) * (root + 2 ^ m) - wv h l ≤ 0
    · obtain ⟨r, er, rest⟩ := ih (by omega) (root + 2 ^ m) (by omega) (by rw [Int.add_emod, rm']; simp) (by omega) (by omega) (by rw [show root + 2 ^ m + 2 ^ m = root + 2 ^ (m + 1) from by omega]; exact hi)
      refine ⟨r, Ev.succ ?_, rest⟩
      simp only [wide_Wide_Sqrt.l0]
      rw [e0, es, eo, w64 (x := (m : Int) - 1) (by omega) (by omega)]
      exact Ev.pos (by omega) (Ev.pos (by omega) (Ev.call ew (Ev.bind kc (Ev.pos (le.mpr c) er))))
    · obtain ⟨r, er, rest⟩ := ih (by omega) root r0 rm' (by omega) lo (by omega)
      refine ⟨r, Ev.succ ?_, rest⟩
      simp only [wide_Wide_Sqrt.l0]
      rw [e0, es, eo, w64 (x := (m : Int) - 1) (by omega) (by omega)]
      exact Ev.pos (by omega) (Ev.pos (by omega) (Ev.call ew (Ev.bind kc (Ev.neg (fun hc => c (le.mp hc)) er))))
theorem wide_Sqrt_ev {h l : Int} (hh : U h) (hl : U l) : ∃ r, Ev (fun k => wide_Wide_Sqrt.f k h l) (r, decide (r * r = wv h l)) ∧ 0 ≤ r ∧ r < 18446744073709551616 ∧ r * r ≤ wv h l ∧ wv h l < (r + 1) * (r + 1) := by
  unfold wide_Wide_Sqrt.f
  have hw := wv_range hh hl
  have e : ((0 : Int) + 2 ^ 64) * (0 + 2 ^ 64) = 340282366920938463463374607431768211456 := by decide
  exact wide_Sqrt_loop hh hl 64 (by decide) 0 (by decide) (by decide) (by decide) (by omega) (by rw [e]; exact hw.2)

/-- From a whole root on: told by neighbours. -/
theorem SqX.of {A W E : Int} {v : Rat} {m f : Int} (hv : v = (A : Rat) * pw (2 * E)) (hW : 0 < W) (h54 : 54 ≤ blen W) (lo : W * W ≤ A) (hi : A < (W + 1) * (W + 1))
    (h0 : W * W = A → RB ((W : Rat) * pw E) m f) (h1 : W * W ≠ A → ∃ y, (W : Rat) * pw E < y ∧ y < (W + 1 : Int) * pw E ∧ RB y m f) : SqX v m f := by
  have sq : ∀ X : Int, ((X : Rat) * pw E) * ((X : Rat) * pw E) = ((X * X : Int) : Rat) * pw (2 * E) := by
    intro X
    rw [show 2 * E = E + E from by omega, pw_add]; push_cast; grind
  refine ⟨W, E, hW, h54, ?_, ?_, ?_, ?_⟩
  · rw [sq, hv]; exact mul_pw_le.mpr lo
  · rw [sq, hv]; exact mul_pw_lt.mpr hi
  · intro h; rw [sq, hv] at h; exact h0 (mul_pw_inj h)
  · intro h y y1 y2
    obtain ⟨z, z1, z2, rb⟩ := h1 (fun hc => h (by rw [sq, hv, hc]))
    exact RB.near hW h54 ⟨z1, z2⟩ ⟨y1, y2⟩ rb
theorem SqX.flags {v : Rat} {m f : Int} (h : SqX v m f) : 0 ≤ f ∧ f ≤ 16 ∧ 0 ≤ m ∧ m ≤ INF := by
  obtain ⟨W, E, w0, w1, lo, hi, ex, ne⟩ := h
  have rb : ∃ x, RB x m f := by
    by_cases c : ((W : Rat) * pw E) * ((W : Rat) * pw E) = v
    · exact ⟨_, ex c⟩
    · have h1 : (W : Rat) * pw E < ((W + 1 : Int) : Rat) * pw E := mul_pw_lt.mpr (by omega)
      refine ⟨((W : Rat) * pw E + ((W + 1 : Int) : Rat) * pw E) / 2, ne c _ ?_ ?_⟩ <;> grind
  obtain ⟨x, rb⟩ := rb
  have := rb.flags
  have := rb.range
  omega
def SqrtR (a r f : Int) : Prop :=
  if isNan a = true then r = QNAN ∧ f = (if signals a then 16 else 0)
  else if mag a = 0 ∨ a = INF then r = a ∧ f = 0
  else if neg a = true then r = QNAN ∧ f = 16
  else SqX (vm (mag a)) r f
theorem SqrtR.unique {a r f r' f' : Int} (h : SqrtR a r f) (h' : SqrtR a r' f') : r = r' ∧ f = f' := by
  unfold SqrtR at h h'
  by_cases c1 : isNan a = true
  · rw [if_pos c1] at h h'; omega
  · rw [if_neg c1] at h h'
    by_cases c2 : mag a = 0 ∨ a = INF
    · rw [if_pos c2] at h h'; omega
    · rw [if_neg c2] at h h'
      by_cases c3 : neg a = true
      · rw [if_pos c3] at h h'; omega
      · rw [if_neg c3] at h h'; exact h.unique h'
theorem SqrtR.flags {a r f : Int} (h : SqrtR a r f) : 0 ≤ f ∧ f ≤ 16 := by
  unfold SqrtR at h
  split at h
  · split at h <;> omega
  · split at h
    · omega
    · split at h
      · omega
      · have := h.flags; omega
theorem more_Sqrt_fin {a : Int} (ha : U a) (fa : fin a) (h0 : mag a ≠ 0) : ∃ r f, Ev (fun k => more_Sqrt.j0 k a false) (r, f) ∧ (neg a = true → r = QNAN ∧ f = 16) ∧ (neg a = false → SqX (vm (mag a)) r f) := by
  by_cases hn : neg a = true
  · refine ⟨QNAN, 16, Ev.succ ?_, fun _ => ⟨rfl, rfl⟩, fun h => by rw [hn] at h; cases h⟩
    simp only [more_Sqrt.j0]
    exact Ev.neg (by decide) (Ev.call (word_Neg_eq ha) (Ev.pos (by rw [neg_def]; exact hn) (Ev.now _)))
  · have hn' : neg a = false := by simpa using hn
    have pa := word_Parts_ev ha (show 0 < mag a by have := (mag_lt (a := a)).1; omega) fa
    obtain ⟨e1, e2⟩ := fin_expo fa
    have m0 := mant_pos (m := mag a) (by have := (mag_lt (a := a)).1; omega)
    have m1 := mant_lt (m := mag a)
    have hv : vm (mag a) = (mant (mag a) : Rat) * pw (expo (mag a)) := rfl
    have emag : a % 9223372036854775808 = mag a := rfl
    rw [emag] at pa
    generalize mant (mag a) = M at *
    generalize expo (mag a) = E at *
    have uM : U M := ⟨by omega, by omega⟩
    obtain ⟨b1, b2, b3⟩ := blen_pos m0
    have b4 : blen M ≤ 53 := blen_le (by decide) (by rw [show p2 53 = 9007199254740992 from by decide]; exact m1)
    have eW : wv 0 M = M := by unfold wv; omega
    have main : ∀ up, (up = 127 - blen M ∨ up = 126 - blen M) → (E - up) % 2 = 0 → ∃ r f, Ev (fun k => (wide_Wide_Left.f 0 M up).bind fun bt172 => ((wide_Wide_Sqrt.f k bt172.1 bt172.2).bind fun bt174 => ((round_Round.f k false 0 bt174.1 (wrap64 (Int.tdiv (wrap64 (E - up)) 2)) (!bt174.2)).bind fun bt176 => (some (bt176.1, bt176.2))))) (r, f) ∧ SqX (vm (mag a)) r f := by
      intro up hup hev
      have hb : M * p2 up < 170141183460469231731687303715884105728 := by
        have e : (170141183460469231731687303715884105728 : Int) = p2 127 := by decide
        have h1 : M * p2 up < p2 (blen M) * p2 up := Int.mul_lt_mul_of_pos_right b3 (p2_pos _)
        rw [← p2_add (by omega) (by omega)] at h1
        have h2 := p2_le (show blen M + up ≤ 127 by omega)
        omega
      have hlo : p2 125 ≤ M * p2 up := by
        have h1 : p2 (blen M - 1) * p2 up ≤ M * p2 up := Int.mul_le_mul_of_nonneg_right b2 (Int.le_of_lt (p2_pos _))
        rw [← p2_add (by omega) (by omega)] at h1
        have h2 := p2_le (show 125 ≤ blen M - 1 + up by omega)
        omega
      obtain ⟨h, l, el, u1, u2, ev⟩ := wide_Left_small (h := 0) (l := M) (n := up) U_0 uM (by omega) (by rw [eW]; omega)
      rw [eW] at ev
      obtain ⟨r, er, r0, r1, rlo, rhi⟩ := wide_Sqrt_ev u1 u2
      rw [ev] at er rlo rhi
      have r62 : 4611686018427387904 ≤ r := by
        refine Decidable.byContradiction fun hc => ?_
        have h1 : (r + 1) * (r + 1) ≤ 4611686018427387904 * 4611686018427387904 := Int.mul_le_mul (by omega) (by omega) (by omega) (by decide)
        have e : (4611686018427387904 : Int) * 4611686018427387904 = 21267647932558653966460912964485513216 := by decide
        have e2 : p2 125 = 42535295865117307932921825928971026432 := by decide
        omega
      have b54 : 54 ≤ blen r := by
        have h1 := blen_mono r62
        have h2 : blen 4611686018427387904 = 63 := blen_unique (by decide) (by decide) (by decide)
        omega
      have eD : wrap64 (Int.tdiv (wrap64 (E - up)) 2) = (E - up) / 2 := by
        rw [w64 (x := E - up) (by omega) (by omega)]
        have : Int.tdiv (E - up) 2 = (E - up) / 2 := Int.tdiv_eq_ediv_of_dvd (Int.dvd_of_emod_eq_zero hev)
        rw [this, w64 (by omega) (by omega)]
      have hvA : vm (mag a) = ((M * p2 up : Int) : Rat) * pw (2 * ((E - up) / 2)) := by
        rw [hv, show 2 * ((E - up) / 2) = E - up from by omega]
        have : pw E = (p2 up : Rat) * pw (E - up) := by rw [← pw_p2 (by omega), ← pw_add]; congr 1; omega
        rw [this]; push_cast; grind
      have hpos : 0 < r := by omega
      have eWr : wv 0 r = r := by unfold wv; omega
      have mid : ((r : Rat) * pw ((E - up) / 2) < ((2 * r + 1 : Int) : Rat) * pw ((E - up) / 2 - 1)) ∧ (((2 * r + 1 : Int) : Rat) * pw ((E - up) / 2 - 1) < ((r + 1 : Int) : Rat) * pw ((E - up) / 2)) := by
        have e := pw_pred ((E - up) / 2)
        have hp := pw_pos ((E - up) / 2 - 1)
        rw [← e]; push_cast
        constructor <;> grind
      by_cases c : r * r = M * p2 up
      · obtain ⟨m, f, ev2, rb⟩ := round_Round_ev false (h := 0) (l := r) (E := (E - up) / 2) U_0 ⟨r0, r1⟩ (by omega) (by omega) false (x := (r : Rat) * pw ((E - up) / 2)) (by rw [eWr]; exact hpos) (fun _ => by rw [eWr]) (fun h => by cases h)
        refine ⟨m, f, ?_, SqX.of hvA hpos b54 rlo rhi (fun _ => rb) (fun h => absurd c h)⟩
        rw [eD]
        refine Ev.call el (Ev.bind er ?_)
        dsimp only
        rw [decide_eq_true c]
        exact Ev.bind ev2 (Ev.now _)
      · obtain ⟨m, f, ev2, rb⟩ := round_Round_ev false (h := 0) (l := r) (E := (E - up) / 2) U_0 ⟨r0, r1⟩ (by omega) (by omega) true (x := ((2 * r + 1 : Int) : Rat) * pw ((E - up) / 2 - 1)) (by rw [eWr]; exact hpos) (fun h => by cases h) (fun _ => by rw [eWr]; exact ⟨mid, b54⟩)
        refine ⟨m, f, ?_, SqX.of hvA hpos b54 rlo rhi (fun h => absurd h c) (fun _ => ⟨_, mid.1, mid.2, rb⟩)⟩
        rw [eD]
        refine Ev.call el (Ev.bind er ?_)
        dsimp only
        rw [decide_eq_false c]
        exact Ev.bind ev2 (Ev.now _)
    have start : ∀ rf : Int × Int, Ev (fun k => if (Go.bits .and .i64 (wrap64 (E - (wrap64 (127 - blen M)))) 1) = 0 then ((wide_Wide_Left.f 0 M (wrap64 (127 - blen M))).bind fun bt172 => ((wide_Wide_Sqrt.f k bt172.1 bt172.2).bind fun bt174 => ((round_Round.f k false 0 bt174.1 (wrap64 (Int.tdiv (wrap64 (E - (wrap64 (127 - blen M)))) 2)) (!bt174.2)).bind fun bt176 => (some (bt176.1, bt176.2))))) else ((wide_Wide_Left.f 0 M (wrap64 ((wrap64 (127 - blen M)) - 1))).bind fun bt178 => ((wide_Wide_Sqrt.f k bt178.1 bt178.2).bind fun bt180 => ((round_Round.f k false 0 bt180.1 (wrap64 (Int.tdiv (wrap64 (E - (wrap64 ((wrap64 (127 - blen M)) - 1)))) 2)) (!bt180.2)).bind fun bt182 => (some (bt182.1, bt182.2)))))) rf →
        Ev (fun k => more_Sqrt.j0 k a false) rf := by
      intro rf h
      refine Ev.succ ?_
      simp only [more_Sqrt.j0]
      exact Ev.neg (by decide) (Ev.call (word_Neg_eq ha) (Ev.neg (by rw [neg_def]; exact hn) (Ev.bind pa (Ev.bind (bits_Len64_ev uM) h))))
    rw [w64 (x := 127 - blen M) (by omega) (by omega), w64 (x := 127 - blen M - 1) (by omega) (by omega)] at start
    have e1 : Go.bits .and .i64 (wrap64 (E - (127 - blen M))) 1 = (E - (127 - blen M)) % 2 := by
      rw [w64 (x := E - (127 - blen M)) (by omega) (by omega)]; exact i64_and 1 (by decide) _
    rw [e1] at start
    by_cases c : (E - (127 - blen M)) % 2 = 0
    · obtain ⟨r, f, ev, sq⟩ := main (127 - blen M) (.inl rfl) c
      exact ⟨r, f, start _ (Ev.pos c ev), fun h => absurd h hn, fun _ => sq⟩
    · obtain ⟨r, f, ev, sq⟩ := main (127 - blen M - 1) (.inr (by omega)) (by omega)
      exact ⟨r, f, start _ (Ev.neg c ev), fun h => absurd h hn, fun _ => sq⟩
/-- THE PROGRAM's ROOT. -/
theorem more_Sqrt_ev {a : Int} (ha : U a) : ∃ r f, Ev (fun k => more_Sqrt.f k a) (r, f) ∧ SqrtR a r f := by
  unfold SqrtR
  have hk := word_Kind_ev ha
  rw [kind_mag] at hk
  by_cases h : isNan a = true
  · refine ⟨QNAN, _, ?_, by rw [if_pos h]; exact ⟨rfl, rfl⟩⟩
    unfold more_Sqrt.f
    refine Ev.bind hk (Ev.pos (kind_nan.mpr h) (Ev.bind (word_Signals_ev ha) ?_))
    cases hs : signals a
    · exact Ev.neg (by decide) (Ev.now _)
    · exact Ev.pos rfl (Ev.now _)
  · have n5 : ¬ kindOf (mag a) = 5 := fun hh => h (kind_nan.mp hh)
    have start : ∀ r : Int × Int, Ev (fun k => more_Sqrt.j0 k a (decide (mag a = 0 ∨ a = INF))) r → Ev (fun k => more_Sqrt.f k a) r := by
      intro r hr
      unfold more_Sqrt.f
      refine Ev.bind hk (Ev.neg n5 (Ev.bind hk ?_))
      by_cases z : mag a = 0
      · rw [decide_eq_true (.inl z)] at hr
        exact Ev.pos (kind_zero.mpr z) hr
      · refine Ev.neg (fun hh => z (kind_zero.mp hh)) ?_
        have e : decide (mag a = 0 ∨ a = INF) = (a == 9218868437227405312) := by
          rw [Bool.eq_iff_iff]; simp [z, INF]
        rw [e] at hr
        exact hr
    by_cases c : mag a = 0 ∨ a = INF
    · refine ⟨a, 0, start _ (Ev.succ ?_), by rw [if_neg h, if_pos c]; exact ⟨rfl, rfl⟩⟩
      simp only [more_Sqrt.j0]
      exact Ev.pos (decide_eq_true c) (Ev.now _)
    · rw [decide_eq_false c] at start
      by_cases fa : fin a
      · obtain ⟨r, f, ev, h1, h2⟩ := more_Sqrt_fin ha fa (fun hh => c (.inl hh))
        refine ⟨r, f, start _ ev, ?_⟩
        rw [if_neg h, if_neg c]
        by_cases hn : neg a = true
        · rw [if_pos hn]; exact h1 hn
        · rw [if_neg hn]; exact h2 (by simpa using hn)
      · -- minus infinity
        have hn : neg a = true := by
          have hm : mag a = INF := by
            have h' : isNan a = false := by simpa using h
            unfold isNan at h'; unfold fin at fa; simp at h'; omega
          obtain ⟨a0, a1⟩ := ha
          unfold neg; unfold mag INF at hm
          refine decide_eq_true (Decidable.byContradiction fun hc => c (.inr ?_))
          unfold INF; omega
        refine ⟨QNAN, 16, start _ (Ev.succ ?_), by rw [if_neg h, if_neg c, if_pos hn]; exact ⟨rfl, rfl⟩⟩
        simp only [more_Sqrt.j0]
        exact Ev.neg (by decide) (Ev.call (word_Neg_eq ha) (Ev.pos (by rw [neg_def]; exact hn) (Ev.now _)))
/-- Between any bounds of the root lies a number that is rounded as the root is. -/
theorem SqX.between {v : Rat} {m f : Int} (h : SqX v m f) {lo hi : Rat} (l0 : 0 ≤ lo) (h0 : 0 ≤ hi) (hl : lo * lo < v) (hh : v < hi * hi) : ∃ y, lo < y ∧ y < hi ∧ RB y m f := by
  obtain ⟨W, E, w0, w1, wl, wh, ex, ne⟩ := h
  have q1 : 0 < (W : Rat) * pw E := by have := mul_pw_lt (a := 0) (b := W) (e := E); simpa using this.mpr w0
  have q3 : 0 < ((W + 1 : Int) : Rat) * pw E := by have := mul_pw_lt (a := 0) (b := W + 1) (e := E); simpa using this.mpr (by omega)
  generalize (W : Rat) * pw E = a at *
  generalize ((W + 1 : Int) : Rat) * pw E = b at *
  by_cases c : a * a = v
  · exact ⟨a, sq_lt l0 (by grind) (by grind), sq_lt (by grind) h0 (by grind), ex c⟩
  · have h1 : a < b := sq_lt (by grind) (by grind) (by grind)
    have h2 : a < hi := sq_lt (by grind) h0 (by grind)
    have h3 : lo < b := sq_lt l0 (by grind) (by grind)
    have h4 : lo < hi := sq_lt l0 h0 (by grind)
    have mid : ∀ {u w : Rat}, u < w → u < (u + w) / 2 ∧ (u + w) / 2 < w := by intro u w h; constructor <;> grind
    by_cases c1 : a ≤ lo <;> by_cases c2 : b ≤ hi
    · have := mid h3; exact ⟨(lo + b) / 2, by grind, by grind, ne c _ (by grind) (by grind)⟩
    · have := mid h4; exact ⟨(lo + hi) / 2, by grind, by grind, ne c _ (by grind) (by grind)⟩
    · have := mid h1; exact ⟨(a + b) / 2, by grind, by grind, ne c _ (by grind) (by grind)⟩
    · have := mid h2; exact ⟨(a + hi) / 2, by grind, by grind, ne c _ (by grind) (by grind)⟩

theorem SqX.le {v : Rat} {m f : Int} (h : SqX v m f) {hi : Rat} (h0 : 0 ≤ hi) (hh : v ≤ hi * hi) : ∃ y, y ≤ hi ∧ RB y m f := by
  obtain ⟨W, E, w0, w1, wl, wh, ex, ne⟩ := h
  have q1 : 0 < (W : Rat) * pw E := by have := mul_pw_lt (a := 0) (b := W) (e := E); simpa using this.mpr w0
  have q3 : (W : Rat) * pw E < ((W + 1 : Int) : Rat) * pw E := mul_pw_lt.mpr (by omega)
  generalize (W : Rat) * pw E = a at *
  generalize ((W + 1 : Int) : Rat) * pw E = b at *
  by_cases c : a * a = v
  · refine ⟨a, ?_, ex c⟩
    refine Decidable.byContradiction fun hc => ?_
    have h1 : hi < a := by grind
    have := Rat.mul_lt_mul_of_pos_left h1 q1
    have := Rat.mul_le_mul_of_nonneg_right (Rat.le_of_lt h1) h0
    grind
  · have h2 : a < hi := sq_lt (by grind) h0 (by grind)
    by_cases c2 : b ≤ hi
    · exact ⟨(a + b) / 2, by grind, ne c _ (by grind) (by grind)⟩
    · exact ⟨(a + hi) / 2, by grind, ne c _ (by grind) (by grind)⟩
theorem SqX.ge {v : Rat} {m f : Int} (h : SqX v m f) {lo : Rat} (h0 : 0 ≤ lo) (hh : lo * lo ≤ v) : ∃ y, lo ≤ y ∧ RB y m f := by
  obtain ⟨W, E, w0, w1, wl, wh, ex, ne⟩ := h
  have q1 : 0 < (W : Rat) * pw E := by have := mul_pw_lt (a := 0) (b := W) (e := E); simpa using this.mpr w0
  have q3 : (W : Rat) * pw E < ((W + 1 : Int) : Rat) * pw E := mul_pw_lt.mpr (by omega)
  generalize (W : Rat) * pw E = a at *
  generalize ((W + 1 : Int) : Rat) * pw E = b at *
  by_cases c : a * a = v
  · refine ⟨a, ?_, ex c⟩
    refine Decidable.byContradiction fun hc => ?_
    have h1 : a < lo := by grind
    have := Rat.mul_lt_mul_of_pos_right h1 q1
    have := Rat.mul_le_mul_of_nonneg_left (Rat.le_of_lt h1) h0
    grind
  · have h3 : lo < b := sq_lt h0 (by grind) (by grind)
    by_cases c1 : a ≤ lo
    · exact ⟨(lo + b) / 2, by grind, ne c _ (by grind) (by grind)⟩
    · exact ⟨(a + b) / 2, by grind, ne c _ (by grind) (by grind)⟩
end Gim
