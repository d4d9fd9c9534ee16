/- DyadNears: the nearest pattern to the exact sum and product of two numbers is the reference's; for every input. -/
import Derived.Test.YtakegikedpcilaaDoorTDyE
import Derived.Test.YtakegikedpcilaaDoorTRefA
import Derived.Test.YtakegikedpcilaaDoorTRefM
import Derived.Test.YtakegikedpcilaaDoorFx9
import Derived.Test.YtakegikedpcilaaDoorFx8
import Derived.Test.YtakegikedpcilaaDoorFx15
namespace Go.Proofs.YtakegikedpcilaaDoor.Pure
open Gim Go Go.RowKit Go.Proofs.YtakegikedpcilaaDoorW.PrintWords Go.Proofs.YtakegikedpcilaaDoorW.PrintLast Go.Proofs.YtakegikedpcilaaDoorW.PrintMore Go.Proofs.YtakegikedpcilaaDoor.F
set_option linter.unusedVariables false

theorem head_ok : gimballaw07_head.f 300 = some true := by decide +kernel
theorem head_ev : Ev (fun k => gimballaw07_head.f k) true := Ev.of (fun k => gimballaw07_head.mono k) head_ok
theorem ref_add_f {a b : Int} (ha : U a) (hb : U b) (fa : fin a) (fb : fin b) : ∃ r f, Ev (fun k => gimbalref04_Add.f k a b) (r, f) ∧ Rd (val a + val b) (Gim.neg a && Gim.neg b) r f := by
  obtain ⟨r, f, ev, rd⟩ := ref_add_fin ha hb fa fb
  refine ⟨r, f, ?_, rd⟩
  unfold gimbalref04_Add.f
  exact Ev.bind (ref_Nans2 ha hb) (Ev.neg (by rw [fin_nan fa, fin_nan fb]; show ¬ ((false || false) = true); decide) (Ev.call (ref_IsInf ha) (Ev.neg (by simpa using not_inf fa) ev)))
theorem ref_mul_f {a b : Int} (ha : U a) (hb : U b) (fa : fin a) (fb : fin b) : ∃ r f, Ev (fun k => gimbalref04_Mul.f k a b) (r, f) ∧ Rd (val a * val b) (Gim.neg a != Gim.neg b) r f := by
  obtain ⟨r, f, ev, rd⟩ := ref_mul_fin ha hb fa fb (Gim.neg a != Gim.neg b) rfl
  refine ⟨r, f, ?_, rd⟩
  have ia := not_inf fa
  have ib := not_inf fb
  have j0 : Ev (fun k => gimbalref04_Mul.j0 k a b (Gim.neg a != Gim.neg b) false) (r, f) := by
    refine Ev.succ ?_
    simp only [gimbalref04_Mul.j0]
    refine Ev.neg (by decide) (Ev.call (ref_IsInf ha) (Ev.neg (by simpa using ia) (Ev.call (ref_IsInf hb) ?_)))
    rw [decide_eq_false ib]
    exact ev
  unfold gimbalref04_Mul.f
  refine Ev.bind (ref_Nans2 ha hb) (Ev.neg (by rw [fin_nan fa, fin_nan fb]; show ¬ ((false || false) = true); decide) (Ev.call (ref_Neg ha) (Ev.call (ref_Neg hb) (Ev.call (ref_IsInf ha) (Ev.neg (by simpa using ia) (Ev.call (ref_IsZero ha) ?_))))))
  by_cases z : mag a = 0
  · refine Ev.pos (by simpa using z) (Ev.call (ref_IsInf hb) ?_)
    rw [decide_eq_false ib]
    exact j0
  · exact Ev.neg (by simpa using z) j0
theorem signed_zero (z : Bool) : signed z 0 = 0 ∨ signed z 0 = 9223372036854775808 := by cases z <;> decide
theorem vm_one : vm 1 = pw (-1074) := by
  unfold vm
  have e1 : mant 1 = 1 := by decide
  have e2 : expo 1 = -1074 := by decide
  rw [e1, e2]; simp
theorem sum_fix {X : Rat} {k : Int} (hX : X = (k : Rat) * pw (-1074)) {z : Bool} {s f t h : Int} (hs : Rd X false s f) (ht : Rd X z t h) :
    (t = 9223372036854775808 → s = 0) ∧ (t ≠ 9223372036854775808 → s = t) ∧ f = h := by
  by_cases h0 : X = 0
  · obtain ⟨rfl, rfl⟩ := hs.zero h0
    obtain ⟨rfl, rfl⟩ := ht.zero h0
    refine ⟨fun _ => rfl, fun hn => ?_, rfl⟩
    rcases signed_zero z with h1 | h1
    · rw [h1]; rfl
    · exact absurd h1 hn
  · obtain ⟨e1, e2⟩ := (hs.any (z' := z) h0).unique ht
    refine ⟨fun ht2 => ?_, fun _ => e1, e2⟩
    exfalso
    obtain ⟨m, rb, hm⟩ := ht.num h0
    have hk : k ≠ 0 := fun hk => h0 (by rw [hX, hk]; simp)
    have hle : vm 1 ≤ rabs X := by
      have hp := pw_pos (-1074)
      rw [vm_one, hX]
      generalize pw (-1074) = P at *
      have key : (1 : Rat) ≤ rabs (k : Rat) := by
        unfold rabs
        by_cases hn : k < 0
        · have h1 : (k : Rat) < 0 := Rat.intCast_lt_intCast.mpr hn
          rw [if_pos h1]
          have : ((1 : Int) : Rat) ≤ ((-k : Int) : Rat) := Rat.intCast_le_intCast.mpr (by omega)
          push_cast at this
          exact this
        · have h1 : ¬ (k : Rat) < 0 := by
            have h2 : ((0 : Int) : Rat) ≤ (k : Rat) := Rat.intCast_le_intCast.mpr (by omega)
            rw [Rat.not_lt]; exact h2
          rw [if_neg h1]
          exact Rat.intCast_le_intCast.mpr (show 1 ≤ k by omega)
      rw [rabs_mul]
      have hP : rabs P = P := by unfold rabs; rw [if_neg (by grind)]
      rw [hP]
      have := Rat.mul_le_mul_of_nonneg_right key (Rat.le_of_lt hp)
      rwa [Rat.one_mul] at this
    have h1 := (RB.self (m := 1) (by decide) (by decide)).mono rb hle
    have hr := rb.range
    have hI : INF < 9223372036854775808 := by decide
    have hmm := mag_signed (s := decide (X < 0)) hr.1 (by omega)
    rw [← hm, ht2] at hmm
    have : mag 9223372036854775808 = 0 := by decide
    omega
theorem mul_fix {Y : Rat} {z : Bool} {p g q i : Int} (hp : Rd Y false p g) (hq : Rd Y z q i) :
    (q = 9223372036854775808 → i = 0 → p = 0) ∧ ((q ≠ 9223372036854775808 ∨ i ≠ 0) → p = q) ∧ g = i := by
  by_cases h0 : Y = 0
  · obtain ⟨rfl, rfl⟩ := hp.zero h0
    obtain ⟨rfl, rfl⟩ := hq.zero h0
    refine ⟨fun _ _ => rfl, fun hn => ?_, rfl⟩
    rcases signed_zero z with h1 | h1
    · rw [h1]; rfl
    · rcases hn with hn | hn
      · exact absurd h1 hn
      · exact absurd rfl hn
  · obtain ⟨e1, e2⟩ := (hp.any (z' := z) h0).unique hq
    refine ⟨fun hq2 hi => ?_, fun _ => e1, e2⟩
    exfalso
    subst hi
    have := hq.exact.1
    rw [hq2] at this
    have hv : val 9223372036854775808 = 0 := val_zero_iff.mpr (by decide)
    exact h0 (by rw [← this, hv])
theorem j3_ev {s f p g t h q i : Int} {b : Bool} (e1 : s = t) (e2 : f = h) (e3 : g = i) (f0 : 0 ≤ f ∧ f ≤ 16) (g0 : 0 ≤ g ∧ g ≤ 16) (hp : p = if b then 0 else q) :
    Ev (fun K => gimballaw07_DyadNears.j3 K s f p g t h q i b) true := by
  refine Ev.succ ?_
  simp only [gimballaw07_DyadNears.j3]
  rw [w64 (x := f) (by omega) (by omega), w64 (x := g) (by omega) (by omega)]
  have hg : (g == i) = true := by simpa using e3
  rw [hg]
  cases b
  · exact Ev.neg (by decide) (Ev.pos e1 (Ev.pos e2 (Ev.pos hp (Ev.now _))))
  · exact Ev.pos rfl (Ev.pos e1 (Ev.pos e2 (Ev.pos hp (Ev.now _))))
theorem j2_ev {s f p g t h q i : Int} (e1 : s = t) (e2 : f = h) (e3 : g = i) (f0 : 0 ≤ f ∧ f ≤ 16) (g0 : 0 ≤ g ∧ g ≤ 16)
    (h1 : q = 9223372036854775808 → i = 0 → p = 0) (h2 : (q ≠ 9223372036854775808 ∨ i ≠ 0) → p = q) :
    Ev (fun K => gimballaw07_DyadNears.j2 K s f p g t h q i) true := by
  refine Ev.succ ?_
  simp only [gimballaw07_DyadNears.j2]
  by_cases c : q = 9223372036854775808
  · refine Ev.pos c (j3_ev e1 e2 e3 f0 g0 ?_)
    by_cases d : i = 0
    · have : (i == 0) = true := by simpa using d
      rw [this]; exact h1 c d
    · have : (i == 0) = false := by simpa using d
      rw [this]; exact h2 (.inr d)
  · exact Ev.neg c (j3_ev e1 e2 e3 f0 g0 (h2 (.inl c)))
theorem DyadNears : gimballaw07_DyadNears.Pure := by
  intro a b wa wb
  have ha := U_of_wf wa
  have hb := U_of_wf wb
  apply Ev.rounds
  unfold gimballaw07_DyadNears.f
  refine Ev.bind head_ev (Ev.pos rfl ?_)
  by_cases fa : fin a
  · obtain ⟨r, l, e, ev, nm⟩ := of_ev rfl ha fa
    refine Ev.bind ev ?_
    by_cases fb : fin b
    · obtain ⟨r', l', e', ev', nm'⟩ := of_ev rfl hb fb
      refine Ev.bind ev' (Ev.call (word_Finite_eq ha) (Ev.neg (by rw [decide_eq_true fa]; show ¬ ((true != true) = true); decide) (Ev.call (word_Finite_eq hb) (Ev.neg (by rw [decide_eq_true fb]; show ¬ ((true != true) = true); decide) (Ev.pos rfl (Ev.succ ?_))))))
      simp only [gimballaw07_DyadNears.j0]
      refine Ev.neg (by decide) (Ev.pos trivial (Ev.succ ?_))
      simp only [gimballaw07_DyadNears.j1]
      obtain ⟨s1, s2, s3, ev1, nm1⟩ := num_add_ev (by decide) (by decide) nm nm'
      obtain ⟨p1, p2, p3, ev2, nm2⟩ := num_mul_ev (by decide) (by decide) (by decide) (by decide) nm nm'
      obtain ⟨s, f, ev3, rd3⟩ := near_ev (by decide) (by decide) nm1
      obtain ⟨p, g, ev4, rd4⟩ := near_ev (by decide) (by decide) nm2
      obtain ⟨t, h, ev5, rd5⟩ := ref_add_f ha hb fa fb
      obtain ⟨q, i, ev6, rd6⟩ := ref_mul_f ha hb fa fb
      obtain ⟨k, hk⟩ := nm.whole
      obtain ⟨k', hk'⟩ := nm'.whole
      obtain ⟨x1, x2, x3⟩ := sum_fix (k := k + k') (by rw [hk, hk', Rat.intCast_add, Rat.add_mul]) rd3 rd5
      obtain ⟨y1, y2, y3⟩ := mul_fix rd4 rd6
      refine Ev.neg (by decide) (Ev.bind ev1 (Ev.bind ev3 (Ev.bind ev2 (Ev.bind ev4 (Ev.bind ev5 (Ev.bind ev6 ?_))))))
      by_cases c : t = 9223372036854775808
      · exact Ev.pos c (j2_ev (x1 c) x3 y3 rd3.flags rd4.flags y1 y2)
      · exact Ev.neg c (j2_ev (x2 c) x3 y3 rd3.flags rd4.flags y1 y2)
    · have nb : Ev (fun K => dyad_Of.f K b) (false, [], 0, false) := ⟨0, fun K _ => of_none hb fb K⟩
      refine Ev.bind nb ?_
      refine Ev.call (word_Finite_eq ha) (Ev.neg (by rw [decide_eq_true fa]; show ¬ ((true != true) = true); decide) (Ev.call (word_Finite_eq hb) (Ev.neg (by rw [decide_eq_false fb]; show ¬ ((false != false) = true); decide) (Ev.pos rfl (Ev.succ ?_)))))
      simp only [gimballaw07_DyadNears.j0]
      refine Ev.neg (by decide) (Ev.pos trivial (Ev.succ ?_))
      simp only [gimballaw07_DyadNears.j1]
      exact Ev.pos rfl (Ev.now _)
  · have na : Ev (fun K => dyad_Of.f K a) (false, [], 0, false) := ⟨0, fun K _ => of_none ha fa K⟩
    refine Ev.bind na ?_
    have second : ∃ r' l' e' o, Ev (fun K => dyad_Of.f K b) (r', l', e', o) ∧ o = decide (fin b) := by
      by_cases fb : fin b
      · obtain ⟨r', l', e', ev', nm'⟩ := of_ev rfl hb fb
        exact ⟨r', l', e', true, ev', (decide_eq_true fb).symm⟩
      · exact ⟨false, [], 0, false, ⟨0, fun K _ => of_none hb fb K⟩, (decide_eq_false fb).symm⟩
    obtain ⟨r', l', e', o, ev', ho⟩ := second
    refine Ev.bind ev' (Ev.call (word_Finite_eq ha) (Ev.neg (by rw [decide_eq_false fa]; show ¬ ((false != false) = true); decide) (Ev.call (word_Finite_eq hb) (Ev.neg (by rw [← ho]; show ¬ ((o != o) = true); simp) (Ev.neg (by decide) (Ev.call (show dyad_Num_Sign.f false [] 0 = some 0 from rfl) (Ev.succ ?_)))))))
    simp only [gimballaw07_DyadNears.j0]
    refine Ev.neg (by decide) (Ev.neg (by decide) (Ev.succ ?_))
    simp only [gimballaw07_DyadNears.j1]
    exact Ev.pos trivial (Ev.now _)
end Go.Proofs.YtakegikedpcilaaDoor.Pure
