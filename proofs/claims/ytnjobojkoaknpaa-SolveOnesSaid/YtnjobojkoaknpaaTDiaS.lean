/- A diagonal: what a triangle of noughts beside it leads back to. -/
import Derived.Test.YtnjobojkoaknpaaTTrv
import Derived.Test.YtnjobojkoaknpaaTKeep
import Derived.Test.YtnjobojkoaknpaaTOne
namespace Gim
open Go Go.RowKit Go.Proofs.YtnjobojkoaknpaaW.PrintWords Go.Proofs.YtnjobojkoaknpaaW.PrintLast Go.Proofs.YtnjobojkoaknpaaW.PrintMore Go.Proofs.Ytnjobojkoaknpaa.F
set_option linter.unusedVariables false
set_option linter.unusedSectionVars false

/-- The same number, or another nought. -/
def rel (a q : Int) : Prop := U q ∧ (mag a ≠ 0 → q = a) ∧ (mag a = 0 → mag q = 0)
theorem rel_refl {a : Int} (ha : U a) : rel a a := ⟨ha, fun _ => rfl, fun h => h⟩
theorem rel_fin {a q : Int} (fa : fin a) (h : rel a q) : fin q := by
  by_cases c : mag a = 0
  · exact fin_of_mag (h.2.2 c)
  · rw [h.2.1 c]; exact fa
theorem av_two {a b : Int} (ha : U a) (hb : U b) (h : mag a = 0) (h0 : mag b = 0) : mag (av a b) = 0 := by
  have R := av_Rd ha hb (fin_of_mag h) (fin_of_mag h0)
  have hx : val a + val b = 0 := by rw [val_zero_iff.mpr h, val_zero_iff.mpr h0]; grind
  rw [(R.zero hx).1]
  exact mag_zero_signed _
theorem rel_add {a q z : Int} (ha : U a) (fa : fin a) (h : rel a q) (hz : U z) (mz : mag z = 0) : rel a (av q z) := by
  refine ⟨av_U h.1 hz, fun c => ?_, fun c => av_two h.1 hz (h.2.2 c) mz⟩
  rw [h.2.1 c]
  exact av_nought ha hz fa c mz
theorem rel_sub {a q z : Int} (ha : U a) (fa : fin a) (h : rel a q) (hz : U z) (mz : mag z = 0) : rel a (mns q z) :=
  rel_add ha fa h (U_flip hz) (by rw [mag_flip hz]; exact mz)
theorem divRd {a b r f : Int} (fa : fin a) (fb : fin b) (h0 : mag b ≠ 0) (h : DivR a b r f) : Rd (val a / val b) (neg a != neg b) r f := by
  unfold DivR at h
  have n1 := not_inf fa
  have n2 := not_inf fb
  have hz : divBad a b = false := by unfold divBad; simp [n1, n2, h0]
  rw [if_neg (by rw [fin_nan fa, fin_nan fb]; decide), if_neg (by rw [hz]; decide), if_neg n1, if_neg n2, if_neg h0] at h
  exact h
theorem quo_nought {q P : Int} (hq : U q) (hP : U P) (fP : fin P) (h0 : mag P ≠ 0) (mq : mag q = 0) : mag (quo q P) = 0 := by
  have R := divRd (fin_of_mag mq) fP h0 (dP_R hq hP)
  have hx : val q / val P = 0 := by rw [val_zero_iff.mpr mq, Rat.div_def, Rat.zero_mul]
  show mag (dP q P).1 = 0
  rw [(R.zero hx).1]
  exact mag_zero_signed _
theorem quo_ex {c q P : Int} (hc : U c) (fc : fin c) (mc : mag c ≠ 0) (hq : U q) (fq : fin q) (hP : U P) (fP : fin P) (h0 : mag P ≠ 0) (h : val q = val c * val P) : quo q P = c := by
  have R := divRd fq fP h0 (dP_R hq hP)
  have hv : val P ≠ 0 := fun e => h0 (val_zero_iff.mp e)
  have hx : val q / val P = val c := by rw [h]; exact Rat.mul_div_cancel hv
  exact (keep hc fc R hx (fun h2 => absurd h2 mc)).1
section
variable {n : Nat} {A : Nat → Nat → Int} (hA : ∀ i k, U (A i k)) (h0 : ∀ i k, i < n → k < n → i ≠ k → A i k = 0)
include hA h0
theorem row_rel {i : Nat} (hi : i < n) {a : Int} (ha : U a) (fa : fin a) : ∀ m lo (l : List Int), Words n l → (∀ j, j < n → fin (rd l (j : Int))) → (∀ k, lo ≤ k → k < lo + m → k < n ∧ k ≠ i) → rel a (rd l (i : Int)) →
    Words n (nRow A i lo m l) ∧ (∀ j, j < n → j ≠ i → rd (nRow A i lo m l) (j : Int) = rd l (j : Int)) ∧ rel a (rd (nRow A i lo m l) (i : Int)) := by
  intro m
  induction m with
  | zero => intro lo l wl _ _ hr; exact ⟨wl, fun j _ _ => rfl, hr⟩
  | succ m ih =>
    intro lo l wl fl hk hr
    obtain ⟨k1, k2⟩ := hk lo (by omega) (by omega)
    have hl := wl.1
    have e0 : A i lo = 0 := h0 i lo hi k1 (by omega)
    have hz : U (mv (A i lo) (rd l (lo : Int))) := mv_U (hA i lo) (rdU hA wl k1)
    have mz : mag (mv (A i lo) (rd l (lo : Int))) = 0 := by
      rw [e0]
      exact mv_nought U_zero_ (rdU hA wl k1) fin_zero (fl lo k1) (.inl (by decide))
    have hr2 := rel_sub ha fa hr hz mz
    have e1 : rd (nStep A i lo l) (i : Int) = mns (rd l (i : Int)) (mv (A i lo) (rd l (lo : Int))) := by
      unfold nStep
      rw [rd_set (by omega), if_pos rfl]
    have e2 : ∀ j, j ≠ i → rd (nStep A i lo l) (j : Int) = rd l (j : Int) := by
      intro j hj
      unfold nStep
      rw [rd_set (by omega), if_neg (by omega)]
    obtain ⟨g1, g2, g3⟩ := ih (lo + 1) (nStep A i lo l) (nStep_W hA hi k1 wl) (by
      intro j hj
      by_cases c : j = i
      · subst c; rw [e1]; exact rel_fin fa hr2
      · rw [e2 j c]; exact fl j hj) (fun k a b => hk k (by omega) (by omega)) (by rw [e1]; exact hr2)
    exact ⟨g1, fun j a b => (g2 j a b).trans (e2 j b), g3⟩
theorem dia_run {P c : Nat → Int} (hP : ∀ i, i < n → A i i = P i ∧ fin (P i) ∧ mag (P i) ≠ 0) {b : List Int} (wb : Words n b) (fb : ∀ i : Nat, i < n → fin (rd b (i : Int)))
    (hc : ∀ i : Nat, i < n → mag (rd b (i : Int)) ≠ 0 → quo (rd b (i : Int)) (P i) = c i ∧ fin (c i)) {up : Bool} : ∀ m s (l : List Int), s + m = n → Words n l → (∀ i : Nat, i < n → fin (rd l (i : Int))) →
    (∀ i, i < n → (∀ j, j < s → rowOf n up j ≠ i) → rd l (i : Int) = rd b (i : Int)) → (∀ i, i < n → (∃ j, j < s ∧ rowOf n up j = i) → mag (rd b (i : Int)) ≠ 0 → rd l (i : Int) = c i) →
    ∀ i : Nat, i < n → mag (rd b (i : Int)) ≠ 0 → rd (nRun n A up false s m l) (i : Int) = c i := by
  intro m
  induction m with
  | zero =>
    intro s l hs wl fl hu hd i hi hm
    refine hd i hi ⟨if up = true then n - 1 - i else i, ?_, ?_⟩ hm
    · split <;> omega
    · unfold rowOf; split <;> simp_all <;> omega
  | succ m ih =>
    intro s l hs wl fl hu hd
    have hi := rowOf_lt (up := up) (show s < n by omega)
    have new : ∀ j, j < s → rowOf n up j ≠ rowOf n up s := by
      intro j hj
      unfold rowOf
      split <;> omega
    have eb := hu _ hi new
    have ub : U (rd b (rowOf n up s : Int)) := rdU hA wb hi
    obtain ⟨w1, o1, r1⟩ := row_rel hA h0 hi ub (fb _ hi) (cntOf n up (rowOf n up s)) (loOf up (rowOf n up s)) l wl fl (by
      intro k a b
      unfold loOf at a b
      unfold cntOf at b
      split at b <;> simp_all <;> omega) (by rw [eb]; exact rel_refl ub)
    obtain ⟨p1, p2, p3⟩ := hP _ hi
    have len1 := w1.1
    have e1 : rd (nOne n A up false s l) (rowOf n up s : Int) = quo (rd (nRow A (rowOf n up s) (loOf up (rowOf n up s)) (cntOf n up (rowOf n up s)) l) (rowOf n up s : Int)) (P (rowOf n up s)) := by
      unfold nOne nDiv
      rw [if_neg (by simp), rd_set (by omega), if_pos rfl, p1]
    have e2 : ∀ j, j < n → j ≠ rowOf n up s → rd (nOne n A up false s l) (j : Int) = rd l (j : Int) := by
      intro j hj hne
      unfold nOne nDiv
      rw [if_neg (by simp), rd_set (by omega), if_neg (by omega)]
      exact o1 j hj hne
    have uP : U (P (rowOf n up s)) := by rw [← p1]; exact hA _ _
    have val1 : mag (rd b (rowOf n up s : Int)) ≠ 0 → rd (nOne n A up false s l) (rowOf n up s : Int) = c (rowOf n up s) := by
      intro hm
      rw [e1, r1.2.1 hm]
      exact (hc _ hi hm).1
    refine ih (s + 1) (nOne n A up false s l) (by omega) (nOne_W hA (by omega) wl) ?_ ?_ ?_
    · intro j hj
      by_cases e : j = rowOf n up s
      · subst e
        by_cases hm : mag (rd b (rowOf n up s : Int)) = 0
        · rw [e1]
          exact fin_of_mag (quo_nought r1.1 uP p2 p3 (r1.2.2 hm))
        · rw [val1 hm]
          exact (hc _ hi hm).2
      · rw [e2 j hj e]; exact fl j hj
    · intro j hj hn
      rw [e2 j hj (fun e => hn s (by omega) e.symm)]
      exact hu j hj (fun k hk => hn k (by omega))
    · intro j hj hex hm
      by_cases e : j = rowOf n up s
      · subst e; exact val1 hm
      · rw [e2 j hj e]
        obtain ⟨k, k1, k2⟩ := hex
        refine hd j hj ⟨k, ?_, k2⟩ hm
        rcases Nat.lt_or_ge k s with g | g
        · exact g
        · obtain rfl : k = s := by omega
          exact absurd k2.symm e
theorem dia_solve {P c : Nat → Int} (hP : ∀ i, i < n → A i i = P i ∧ fin (P i) ∧ mag (P i) ≠ 0) {b : List Int} (wb : Words n b) (fb : ∀ i : Nat, i < n → fin (rd b (i : Int)))
    (hc : ∀ i : Nat, i < n → mag (rd b (i : Int)) ≠ 0 → quo (rd b (i : Int)) (P i) = c i ∧ fin (c i)) {up : Bool} :
    ∀ i : Nat, i < n → mag (rd b (i : Int)) ≠ 0 → rd (nRun n A up false 0 n b) (i : Int) = c i :=
  dia_run hA h0 hP wb fb hc n 0 b (by omega) wb fb (fun i _ _ => rfl) (fun i _ h => by obtain ⟨j, h1, _⟩ := h; omega)
end
theorem vSum_rel {g x : Nat → Int} {a : Int} (ha : U a) (fa : fin a) : ∀ m lo s, (∀ k, lo ≤ k → k < lo + m → U (mv (g k) (x k)) ∧ mag (mv (g k) (x k)) = 0) → rel a s → rel a (vSum g x lo m s)
  | 0, lo, s, _, h => h
  | m + 1, lo, s, hk, h => vSum_rel ha fa m (lo + 1) _ (fun k a b => hk k (by omega) (by omega)) (rel_add ha fa h (hk lo (by omega) (by omega)).1 (hk lo (by omega) (by omega)).2)
/-- A power of two, and a number times one. -/
def pat (q : Int) : Int := (1023 + q) * 4503599627370496
def sh (x q : Int) : Int := x + q * 4503599627370496
theorem pat_ok {q : Int} (h1 : -32 ≤ q) (h2 : q ≤ 31) : U (pat q) ∧ fin (pat q) ∧ mag (pat q) ≠ 0 ∧ neg (pat q) = false ∧ val (pat q) = pw q := by
  have m : mag (pat q) = (1023 + q) * 4503599627370496 := by unfold mag pat; omega
  have e3 : neg (pat q) = false := by unfold Gim.neg pat; rw [decide_eq_false]; omega
  refine ⟨by unfold U pat; omega, by unfold fin INF; rw [m]; omega, by rw [m]; omega, e3, ?_⟩
  unfold val vm
  rw [e3, m]
  have a1 : mant ((1023 + q) * 4503599627370496) = 4503599627370496 := by unfold mant; rw [if_neg (by omega)]; omega
  have a2 : expo ((1023 + q) * 4503599627370496) = -52 + q := by unfold expo; rw [if_neg (by omega)]; omega
  rw [a1, a2, pw_add]
  have h := pw_neg_mul 52
  have h2 : pw 52 = ((4503599627370496 : Int) : Rat) := by rw [pw_p2 (by decide)]; rfl
  rw [h2] at h
  simp only [Bool.false_eq_true, if_false]
  rw [← Rat.mul_assoc, Rat.mul_comm ((4503599627370496 : Int) : Rat), h, Rat.one_mul]
theorem sh_ok {x q : Int} (hx : U x) (h1 : 100 ≤ x / 4503599627370496 % 2048) (h2 : x / 4503599627370496 % 2048 ≤ 1900) (q1 : -32 ≤ q) (q2 : q ≤ 31) :
    U (sh x q) ∧ fin (sh x q) ∧ mag (sh x q) ≠ 0 ∧ val (sh x q) = val x * pw q := by
  obtain ⟨u0, u1⟩ := hx
  have m : mag (sh x q) = mag x + q * 4503599627370496 := by unfold mag sh; omega
  have ex : mag x / 4503599627370496 = x / 4503599627370496 % 2048 := by unfold mag; omega
  have e3 : neg (sh x q) = neg x := by
    unfold Gim.neg sh
    by_cases c : 9223372036854775808 ≤ x
    · rw [decide_eq_true c, decide_eq_true]; omega
    · rw [decide_eq_false c, decide_eq_false]; omega
  have b0 : 0 ≤ mag x := by unfold mag; omega
  refine ⟨by unfold U sh; omega, by unfold fin INF; rw [m]; omega, by rw [m]; omega, ?_⟩
  have v : vm (mag (sh x q)) = vm (mag x) * pw q := by
    unfold vm
    rw [m]
    have a1 : mant (mag x + q * 4503599627370496) = mant (mag x) := by unfold mant; rw [if_neg (by omega), if_neg (by omega)]; omega
    have a2 : expo (mag x + q * 4503599627370496) = expo (mag x) + q := by unfold expo; rw [if_neg (by omega), if_neg (by omega)]; omega
    rw [a1, a2, pw_add, Rat.mul_assoc]
  unfold val
  rw [e3, v]
  cases neg x
  · rfl
  · simp only [if_true]; grind
theorem mv_pat {x q : Int} (hx : U x) (h1 : 100 ≤ x / 4503599627370496 % 2048) (h2 : x / 4503599627370496 % 2048 ≤ 1900) (q1 : -32 ≤ q) (q2 : q ≤ 31) (fx : fin x) : mv (pat q) x = sh x q := by
  obtain ⟨s1, s2, s3, s4⟩ := sh_ok hx h1 h2 q1 q2
  obtain ⟨p1, p2, p3, p4, p5⟩ := pat_ok q1 q2
  refine (keep s1 s2 (mv_Rd p1 hx p2 fx) ?_ (fun h => absurd h s3)).1
  rw [s4, p5, Rat.mul_comm]
theorem quo_sh {x q : Int} (hx : U x) (h1 : 100 ≤ x / 4503599627370496 % 2048) (h2 : x / 4503599627370496 % 2048 ≤ 1900) (q1 : -32 ≤ q) (q2 : q ≤ 31) (fx : fin x) (mx_ : mag x ≠ 0) : quo (sh x q) (pat q) = x := by
  obtain ⟨s1, s2, s3, s4⟩ := sh_ok hx h1 h2 q1 q2
  obtain ⟨p1, p2, p3, p4, p5⟩ := pat_ok q1 q2
  exact quo_ex hx fx mx_ s1 s2 p1 p2 p3 (by rw [s4, p5])
end Gim
