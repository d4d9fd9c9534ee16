/- MoreInts: any whole number as a number, by lists of bits, and back, if nothing was lost. -/
import Derived.Test.YtcappkphcjgeoaaTRefI
import Derived.Test.YtcappkphcjgeoaaFx5
import Derived.Test.YtcappkphcjgeoaaFx20
namespace Go.Proofs.Ytcappkphcjgeoaa.Pure
open Gim Go.RowKit Go.Proofs.Ytcappkphcjgeoaa.F Go.Proofs.YtcappkphcjgeoaaW.PrintWords Go.Proofs.YtcappkphcjgeoaaW.PrintLast
set_option linter.unusedVariables false

theorem head_ok : gimballaw05_head.f 100 = some true := by decide +kernel
theorem head_ev : Ev (fun k => gimballaw05_head.f k) true := Ev.of (fun k => gimballaw05_head.mono k) head_ok

def M63 : Int := 4890909195324358656
theorem vm_M63 : vm M63 = pw 63 := by
  unfold vm
  rw [show mant M63 = 4503599627370496 from by decide, show expo M63 = 11 from by decide, show ((4503599627370496 : Int) : Rat) = pw 52 from by rw [pw_p2 (by decide)]; rfl, ← pw_add]
  rfl
theorem pw63 : pw 63 = ((9223372036854775808 : Int) : Rat) := by rw [pw_p2 (by decide)]; rfl
/-- A whole number, rounded: exact, or a whole number that is another one. -/
theorem round_whole {m b f : Int} (m0 : 0 < m) (m1 : m ≤ 9223372036854775808) (h : RB ((m : Rat) * pw 0) b f) :
    0 < b ∧ b ≤ M63 ∧ (f = 0 ∨ f = 1) ∧ (f = 0 ↔ vm b = (m : Rat) * pw 0) ∧ ∃ t : Int, 0 ≤ t ∧ t ≤ 9223372036854775808 ∧ vm b = (t : Rat) * pw 0 := by
  have hx : (m : Rat) * pw 0 ≤ vm M63 := by rw [vm_M63, pw63]; have := (mul_pw_le (a := m) (b := 9223372036854775808) (e := 0)).mpr m1; rw [pw_zero] at this ⊢; grind
  have h1 : (1 : Rat) ≤ (m : Rat) * pw 0 := by have := (mul_pw_le (a := 1) (b := m) (e := 0)).mpr (by omega); rw [pw_zero] at this ⊢; push_cast at this; grind
  have s63 : RB (vm M63) M63 0 := RB.self (by decide) (by decide)
  have s1 : RB (vm 4607182418800017408) 4607182418800017408 0 := RB.self (by decide) (by decide)
  have v1 : vm 4607182418800017408 = 1 := by
    unfold vm
    rw [show mant 4607182418800017408 = 4503599627370496 from by decide, show expo 4607182418800017408 = -52 from by decide, show ((4503599627370496 : Int) : Rat) = pw 52 from by rw [pw_p2 (by decide)]; rfl, ← pw_add]
    exact pw_zero
  have hi := h.mono s63 hx
  have lo := s1.mono h (by rw [v1]; exact h1)
  obtain ⟨q, n, hr, hb, hf⟩ := h.ex
  have hlt : enc q n < INF := by
    refine Decidable.byContradiction fun hc => ?_
    rw [if_neg hc] at hb
    have : M63 < INF := by decide
    omega
  rw [if_pos hlt] at hb hf
  have hv : vm b = (n : Rat) * pw q := by rw [hb]; exact hr.val_enc
  have nt : ¬ (m : Rat) * pw 0 < pw (-1022) := by
    have := pw_mono (show (-1022 : Int) ≤ 0 by decide)
    rw [pw_zero] at this ⊢; rw [pw_zero] at h1; grind
  have tle : vm b ≤ vm M63 := vm_mono (by omega) hi
  refine ⟨by omega, hi, ?_, ?_, ?_⟩
  · rw [if_neg nt] at hf
    split at hf
    · exact .inl hf
    · exact .inr hf
  · rw [hf, hv]
    by_cases c : (m : Rat) * pw 0 = (n : Rat) * pw q
    · rw [if_pos c]; exact ⟨fun _ => c.symm, fun _ => rfl⟩
    · rw [if_neg c, if_neg nt]; exact ⟨fun h => by omega, fun h => absurd h.symm c⟩
  · by_cases c : (m : Rat) * pw 0 = (n : Rat) * pw q
    · exact ⟨m, by omega, m1, by rw [hv, c]⟩
    · have hq : 0 ≤ q := by
        refine Decidable.byContradiction fun hc => c ?_
        have e : (m : Rat) * pw 0 = ((m * p2 (-q) : Int) : Rat) * pw q := by
          have : pw 0 = (p2 (-q) : Rat) * pw q := by rw [← pw_p2 (by omega), ← pw_add]; congr 1; omega
          rw [this]; push_cast; grind
        have n1 := hr.near1
        have n2 := hr.near2
        rw [e] at n1 n2 ⊢
        have e2 : 2 * (((m * p2 (-q) : Int) : Rat) * pw q) = ((2 * (m * p2 (-q)) : Int) : Rat) * pw q := by push_cast; grind
        rw [e2] at n1 n2
        have u1 := mul_pw_le.mp n1
        have u2 := mul_pw_le.mp n2
        rw [show m * p2 (-q) = n from by omega]
      have e : (n : Rat) * pw q = ((n * p2 q : Int) : Rat) * pw 0 := by rw [pw_p2 hq, pw_zero]; push_cast; grind
      refine ⟨n * p2 q, Int.mul_nonneg hr.n_nonneg (Int.le_of_lt (p2_pos _)), ?_, by rw [hv, e]⟩
      rw [hv, e, vm_M63, pw63] at tle
      have h2 : ((n * p2 q : Int) : Rat) * pw 0 ≤ ((9223372036854775808 : Int) : Rat) * pw 0 := by rw [pw_zero] at tle ⊢; grind
      exact mul_pw_le.mp h2

theorem wh_of_whole {b t : Int} (h : vm (mag b) = (t : Rat) * pw 0) : wh b = t * p2 1074 := by
  rw [wh_vm] at h
  have : pw 0 = (p2 1074 : Rat) * pw (-1074) := by rw [← pw_p2 (by decide), ← pw_add]; rfl
  rw [this] at h
  refine mul_pw_inj (e := -1074) ?_
  rw [h]; push_cast; grind

theorem I_of_wf {n : Int} (h : (Lit.int .i64 n).wf = true) : -9223372036854775808 ≤ n ∧ n ≤ 9223372036854775807 := by
  simp [Lit.wf, IntKind.min, IntKind.max, IntKind.signed, IntKind.bits] at h
  omega

theorem MoreInts : gimballaw05_MoreInts.Pure := by
  intro n wn
  obtain ⟨n0, n1⟩ := I_of_wf wn
  apply Ev.rounds
  unfold gimballaw05_MoreInts.f
  refine Ev.bind head_ev (Ev.pos rfl ?_)
  -- the magnitude
  have main : ∀ m : Int, 0 ≤ m → m ≤ 9223372036854775808 → (n < 0 → m = -n) → (¬ n < 0 → m = n) → ∀ b f, Ev (fun k => round_Round.f k (decide (n < 0)) 0 m 0 false) (b, f) → Ev (fun k => gimballaw05_MoreInts.j0 k n b f m) true := by
    intro m m0 m1 hneg hpos b f ev
    have uM : U m := ⟨m0, by omega⟩
    -- what the rounding answers
    obtain ⟨hb, hf, hex, t, t0, t1, hv⟩ : (U b ∧ fin b ∧ neg b = decide (n < 0)) ∧ (f = 0 ∨ f = 1) ∧ (f = 0 ↔ vm (mag b) = (m : Rat) * pw 0) ∧ ∃ t : Int, 0 ≤ t ∧ t ≤ 9223372036854775808 ∧ vm (mag b) = (t : Rat) * pw 0 := by
      by_cases z : m = 0
      · subst z
        have e := Ev.det ev (round_Round_zero _ _)
        obtain ⟨rfl, rfl⟩ := Prod.mk.inj e
        have hn : ¬ n < 0 := fun h => by have := hneg h; omega
        rw [decide_eq_false hn]
        have hm : vm (mag (signed false 0)) = 0 := by rw [mag_signed (by decide) (by decide)]; exact vm_zero
        exact ⟨⟨U_signed (by decide) (by decide), by unfold fin; rw [mag_signed (by decide) (by decide)]; decide, neg_signed (by decide) (by decide)⟩, .inl rfl, ⟨fun _ => by rw [hm]; simp, fun _ => rfl⟩, 0, by decide, by decide, by rw [hm]; simp⟩
      · have eW : wv 0 m = m := by unfold wv; omega
        obtain ⟨b', f', ev', rb⟩ := round_Round_ev (decide (n < 0)) (h := 0) (l := m) (E := 0) U_0 uM (by decide) (by decide) false (x := (m : Rat) * pw 0) (by rw [eW]; omega) (fun _ => by rw [eW]) (fun h => by cases h)
        obtain ⟨rfl, rfl⟩ := Prod.mk.inj (Ev.det ev ev')
        obtain ⟨c1, c2, c3, c4, c5⟩ := round_whole (by omega) m1 rb
        have hM : M63 < INF := by decide
        have hI := INF_lt
        have hm : mag (signed (decide (n < 0)) b') = b' := mag_signed (by omega) (by omega)
        rw [hm]
        exact ⟨⟨U_signed (by omega) (by omega), by unfold fin; rw [hm]; omega, neg_signed (by omega) (by omega)⟩, c3, c4, c5⟩
    obtain ⟨ub, fb, nb⟩ := hb
    have hN : word_Neg.f b = some (neg b) := word_Neg_eq ub
    have hw := wh_of_whole hv
    have hP := p2_pos 1074
    obtain ⟨w1, w2⟩ := wh_whole fb
    rw [hw, Int.mul_ediv_cancel _ (by omega)] at w1
    rw [hw, Int.mul_emod_left] at w2
    have lost : lostW b = false := by rw [← w2]; decide
    have hwm : wh b = m * p2 1074 ↔ f = 0 := by
      rw [hex]
      constructor
      · intro h
        rw [hw] at h
        have := Int.eq_of_mul_eq_mul_right (by omega) h
        rw [hv, this]
      · intro h; exact wh_of_whole h
    -- the lists
    have lb := bl_length (wh_nonneg b)
    have bb := wh_blen fb
    have lm := bl_length m0
    have bm : blen m ≤ 64 := blen_le (by decide) (by rw [p2_64]; omega)
    have k1 := ref_up (a := bl m) (n := 1074) (bl_bits _) (by omega) (by decide)
    rw [bv_bl m0] at k1
    have hM0 : 0 ≤ m * p2 1074 := Int.mul_nonneg m0 (Int.le_of_lt hP)
    have lM := bl_length hM0
    have bM : blen (m * p2 1074) ≤ 1200 := by
      refine blen_le (by decide) ?_
      have h1 : m * p2 1074 < p2 64 * p2 1074 := Int.mul_lt_mul_of_pos_right (by rw [p2_64]; omega) hP
      rw [← p2_add (by decide) (by decide)] at h1
      have h2 := p2_le (show (64 : Int) + 1074 ≤ 1200 by decide)
      omega
    have k2 := ref_cmp (a := bl (wh b)) (b := bl (m * p2 1074)) (bl_bits _) (bl_bits _) (by omega) (by omega)
    rw [bv_bl (wh_nonneg b), bv_bl hM0] at k2
    obtain ⟨j, g, et, R⟩ := more_ToInt_ev ub
    unfold ToIntR at R
    rw [if_pos fb, lost, ← w1, if_neg (by decide), nb] at R
    have j1 : Ev (fun k => gimballaw05_MoreInts.j1 k n b f (bl m) false) true := by
      refine Ev.succ ?_
      simp only [gimballaw05_MoreInts.j1]
      have e : ((sgn (wh b - m * p2 1074) == 0) != (f == 0)) = false := by
        have : sgn (wh b - m * p2 1074) = 0 ↔ f = 0 := by
          rw [← hwm]; unfold sgn
          constructor <;> intro h
          · split at h <;> (try split at h) <;> omega
          · rw [if_neg (by omega), if_pos (by omega)]
        have e2 : (sgn (wh b - m * p2 1074) == 0) = (f == 0) := by rw [Bool.eq_iff_iff, beq_iff_eq, beq_iff_eq]; exact this
        rw [e2]; simp
      refine Ev.neg (by decide) (Ev.bind (ref_Whole ub fb) (Ev.bind k1 (Ev.bind k2 (Ev.neg (by rw [e]; decide) (Ev.bind et ?_)))))
      by_cases f0 : f = 0
      · refine Ev.pos f0 ?_
        have tm : t = m := by
          have h := hwm.mpr f0
          rw [hw] at h
          exact Int.eq_of_mul_eq_mul_right (by omega) h
        subst tm
        have ok : okM (decide (n < 0)) t = true := by
          unfold okM
          by_cases hn : n < 0
          · rw [decide_eq_true hn]; simp; have := hneg hn; omega
          · rw [decide_eq_true (show t < 9223372036854775808 by have := hpos hn; omega)]; rfl
        unfold outM at R
        rw [if_pos ok] at R
        obtain ⟨rfl, rfl⟩ := Prod.mk.inj R
        have v : sgnW (decide (n < 0)) t = n := by
          unfold sgnW
          by_cases hn : n < 0
          · have := hneg hn
            rw [if_pos (decide_eq_true hn)]; unfold wrap64; omega
          · have := hpos hn
            rw [if_neg (by simpa using hn)]; unfold wrap64; omega
        exact Ev.pos v (Ev.now _)
      · refine Ev.neg f0 ?_
        by_cases ok : okM (decide (n < 0)) t = true
        · unfold outM at R
          rw [if_pos ok] at R
          obtain ⟨rfl, rfl⟩ := Prod.mk.inj R
          exact Ev.pos rfl (Ev.now _)
        · have tt : t = 9223372036854775808 := by
            refine Decidable.byContradiction fun hc => ok ?_
            unfold okM; rw [decide_eq_true (show t < 9223372036854775808 by omega)]; rfl
          unfold outM at R
          rw [if_neg ok] at R
          obtain ⟨rfl, rfl⟩ := Prod.mk.inj R
          have hm : mag b = M63 := by
            refine vm_inj mag_lt.1 (by decide) ?_
            rw [hv, tt, vm_M63, pw63, pw_zero]; grind
          refine Ev.neg (by decide) (Ev.pos rfl (Ev.pos rfl (Ev.call (word_Abs_eq ub) (Ev.ofEq ?_))))
          rw [show b % 9223372036854775808 = mag b from rfl, hm]; rfl
    have e3 : (neg b != decide (n < 0)) = false := by rw [nb]; simp
    refine Ev.succ ?_
    simp only [gimballaw05_MoreInts.j0]
    refine Ev.bind (ref_of uM) ?_
    rcases hf with f0 | f1
    · refine Ev.pos f0 (Ev.call hN (Ev.neg (by rw [e3]; decide) (Ev.call (word_Finite_eq ub) ?_)))
      rw [decide_eq_true fb]
      exact j1
    · refine Ev.neg (by omega) (Ev.pos f1 (Ev.call hN (Ev.neg (by rw [e3]; decide) (Ev.call (word_Finite_eq ub) ?_))))
      rw [decide_eq_true fb]
      exact j1
  -- the number's rounding exists
  have ex : ∀ m : Int, U m → ∃ b f, Ev (fun k => round_Round.f k (decide (n < 0)) 0 m 0 false) (b, f) := by
    intro m uM
    by_cases z : m = 0
    · subst z; exact ⟨_, _, round_Round_zero _ _⟩
    · have eW : wv 0 m = m := by unfold wv; omega
      obtain ⟨b', f', ev', rb⟩ := round_Round_ev (decide (n < 0)) (h := 0) (l := m) (E := 0) U_0 uM (by decide) (by decide) false (x := (m : Rat) * pw 0) (by rw [eW]; have := uM.1; omega) (fun _ => by rw [eW]) (fun h => by cases h)
      exact ⟨_, _, ev'⟩
  by_cases hn : n < 0
  · have e : IntKind.u64.wrap (-(IntKind.u64.wrap n)) = -n := by rw [wu64_mod, wu64_mod]; omega
    have uM : U (-n) := ⟨by omega, by omega⟩
    obtain ⟨b, f, ev⟩ := ex (-n) uM
    have hF : Ev (fun k => more_FromInt.f k n) (b, f) := by
      unfold more_FromInt.f
      rw [e]
      exact Ev.pos hn (Ev.bind ev (Ev.now _))
    refine Ev.bind hF (Ev.pos hn ?_)
    rw [e]
    exact main (-n) (by omega) (by omega) (fun _ => rfl) (fun h => absurd hn h) b f ev
  · have e : IntKind.u64.wrap n = n := wu64 (by omega) (by omega)
    have uM : U n := ⟨by omega, by omega⟩
    obtain ⟨b, f, ev⟩ := ex n uM
    have hF : Ev (fun k => more_FromInt.f k n) (b, f) := by
      unfold more_FromInt.f
      rw [e]
      exact Ev.neg hn (Ev.bind ev (Ev.now _))
    refine Ev.bind hF (Ev.neg hn ?_)
    rw [e]
    exact main n (by omega) (by omega) (fun h => absurd h hn) (fun _ => rfl) b f ev
end Go.Proofs.Ytcappkphcjgeoaa.Pure
