/- What soft.Add answers: the sum of two numbers, rounded. -/
import Derived.Test.YtnjobojkoaknpaaTNan
import Derived.Test.YtnjobojkoaknpaaFx5
import Derived.Test.YtnjobojkoaknpaaFx6
namespace Gim
open Go Go.RowKit Go.Proofs.YtnjobojkoaknpaaW.PrintWords Go.Proofs.YtnjobojkoaknpaaW.PrintLast Go.Proofs.YtnjobojkoaknpaaW.PrintMore Go.Proofs.Ytnjobojkoaknpaa.F
set_option linter.unusedVariables false

theorem add_nan {a b : Int} (ha : U a) (hb : U b) (h : (isNan a || isNan b) = true) : Ev (fun k => soft_Add.f k a b) (QNAN, nanF a b) := by
  unfold soft_Add.f
  refine Ev.bind (soft_nan2 ha hb) ?_
  exact Ev.pos h (Ev.now _)
theorem add_kinds {a b : Int} (ha : U a) (hb : U b) (h : (isNan a || isNan b) = false) {r : Int × Int}
    (hk : Ev (fun k => soft_Add.j0 k a b (kindOf (mag a)) (kindOf (mag b)) (if kindOf (mag a) = 4 then (if kindOf (mag b) = 4 then a != b else false) else false)) r) : Ev (fun k => soft_Add.f k a b) r := by
  unfold soft_Add.f
  refine Ev.bind (soft_nan2 ha hb) (Ev.neg (by simp only [h]; decide) (Ev.bind (word_Kind_ev ha) (Ev.bind (word_Kind_ev hb) ?_)))
  rw [kind_mag, kind_mag]
  by_cases c1 : kindOf (mag a) = 4
  · by_cases c2 : kindOf (mag b) = 4
    · rw [if_pos c1, if_pos c2] at hk; exact Ev.pos c1 (Ev.pos c2 hk)
    · rw [if_pos c1, if_neg c2] at hk; exact Ev.pos c1 (Ev.neg c2 hk)
  · rw [if_neg c1] at hk; exact Ev.neg c1 hk
theorem add_inf2 {a b : Int} (ha : U a) (hb : U b) (h1 : mag a = INF) (h2 : mag b = INF) (h3 : a ≠ b) : Ev (fun k => soft_Add.f k a b) (QNAN, 16) := by
  refine add_kinds ha hb (by unfold isNan; rw [h1, h2]; decide) ?_
  rw [if_pos (kind_inf.mpr h1), if_pos (kind_inf.mpr h2)]
  refine Ev.succ ?_
  simp only [soft_Add.j0]
  exact Ev.pos (by simp [h3]) (Ev.now _)
theorem add_infa {a b : Int} (ha : U a) (hb : U b) (h1 : mag a = INF) (h2 : isNan b = false) (h3 : a = b ∨ mag b ≠ INF) : Ev (fun k => soft_Add.f k a b) (a, 0) := by
  refine add_kinds ha hb (by rw [h2]; unfold isNan; rw [h1]; decide) ?_
  refine Ev.succ ?_
  simp only [soft_Add.j0]
  refine Ev.neg ?_ (Ev.pos (kind_inf.mpr h1) (Ev.now _))
  rw [if_pos (kind_inf.mpr h1)]
  rcases h3 with h3 | h3
  · subst h3; simp
  · rw [if_neg (fun h => h3 (kind_inf.mp h))]; decide
theorem add_infb {a b : Int} (ha : U a) (hb : U b) (h1 : fin a) (h2 : mag b = INF) : Ev (fun k => soft_Add.f k a b) (b, 0) := by
  have hn : kindOf (mag a) ≠ 4 := fun h => by have := kind_inf.mp h; unfold fin at h1; omega
  refine add_kinds ha hb (by rw [fin_nan h1]; unfold isNan; rw [h2]; decide) ?_
  refine Ev.succ ?_
  simp only [soft_Add.j0]
  rw [if_neg hn]
  exact Ev.neg (by decide) (Ev.neg hn (Ev.pos (kind_inf.mpr h2) (Ev.now _)))

theorem wide_Sub_eq {h l h' l' : Int} (hh : U h) (hl : U l) (hh' : U h') (hl' : U l') (hle : wv h' l' ≤ wv h l) : ∃ a b, wide_Wide_Sub.f h l h' l' = some (a, b, false) ∧ U a ∧ U b ∧ wv a b = wv h l - wv h' l' := by
  obtain ⟨x0, x1⟩ := hh; obtain ⟨x2, x3⟩ := hl; obtain ⟨x4, x5⟩ := hh'; obtain ⟨x6, x7⟩ := hl'
  unfold wide_Wide_Sub.f bits_Sub64.f
  rw [if_pos ⟨x2, x6, x7, by decide, by decide⟩]
  simp only [Option.bind_some]
  unfold wv at hle
  by_cases c : l < l' + 0
  · rw [if_pos c, if_pos ⟨x0, x4, x5, by decide, by decide⟩]
    simp only [Option.bind_some]
    refine ⟨_, _, congrArg some (Prod.ext rfl (Prod.ext rfl ?_)), ⟨by omega, by omega⟩, ⟨by omega, by omega⟩, ?_⟩
    · rw [if_neg (by omega)]; rfl
    · unfold wv; omega
  · rw [if_neg c, if_pos ⟨x0, x4, x5, by decide, by decide⟩]
    simp only [Option.bind_some]
    refine ⟨_, _, congrArg some (Prod.ext rfl (Prod.ext rfl ?_)), ⟨by omega, by omega⟩, ⟨by omega, by omega⟩, ?_⟩
    · rw [if_neg (by omega)]; rfl
    · unfold wv; omega
theorem add_j2 {a b : Int} (ha : U a) (hb : U b) (fa : fin a) (fb : fin b) (za : 0 < mag a) (zb : 0 < mag b) (hle : mag b ≤ mag a) :
    ∃ r f, Ev (fun k => soft_Add.j2 k a b) (r, f) ∧ Rd (val a + val b) (neg a && neg b) r f := by
  have pa := word_Parts_ev ha za fa
  have pb := word_Parts_ev hb zb fb
  obtain ⟨ea1, ea2⟩ := fin_expo fa
  obtain ⟨eb1, eb2⟩ := fin_expo fb
  have hex : expo (mag b) ≤ expo (mag a) := expo_mono (by omega) hle
  have ma := mant_pos za
  have ma' := mant_lt (m := mag a)
  have mga := mant_ge (m := mag a) (by omega)
  have mb := mant_pos zb
  have mb' := mant_lt (m := mag b)
  have va : vm (mag a) = (mant (mag a) : Rat) * pw (expo (mag a)) := rfl
  have vb : vm (mag b) = (mant (mag b) : Rat) * pw (expo (mag b)) := rfl
  have hvle : vm (mag b) ≤ vm (mag a) := vm_mono (by omega) hle
  generalize hM : mant (mag a) = M at *
  generalize hN : mant (mag b) = N at *
  generalize hE : expo (mag a) = E at *
  generalize hG : expo (mag b) = G at *
  have emag : ∀ c : Int, c % 9223372036854775808 = mag c := fun _ => rfl
  rw [emag, hM, hE] at pa
  rw [emag, hN, hG] at pb
  have UM : U M := ⟨by omega, by omega⟩
  have UN : U N := ⟨by omega, by omega⟩
  obtain ⟨qh, ql, evq, uq1, uq2, eq⟩ := wide_Right_ev (h := N) (l := 0) (n := E - G) UN U_0 (by omega)
  have wN : wv N 0 = N * 18446744073709551616 := by unfold wv; omega
  have wM : wv M 0 = M * 18446744073709551616 := by unfold wv; omega
  rw [wN] at evq eq
  have hP := p2_pos (E - G)
  have dm := Int.mul_ediv_add_emod (N * 18446744073709551616) (p2 (E - G))
  have r0 := Int.emod_nonneg (N * 18446744073709551616) (Int.ne_of_gt hP)
  have r1 := Int.emod_lt_of_pos (N * 18446744073709551616) hP
  have q0 : 0 ≤ N * 18446744073709551616 / p2 (E - G) := Int.ediv_nonneg (by omega) (Int.le_of_lt hP)
  have q1 : N * 18446744073709551616 / p2 (E - G) ≤ N * 18446744073709551616 := Int.ediv_le_self _ (by omega)
  generalize hQ : N * 18446744073709551616 / p2 (E - G) = Q at *
  generalize hR : N * 18446744073709551616 % p2 (E - G) = R at *
  -- in units of 2^(E - 64)
  have hu := pw_pos (E - 64)
  have uE : pw E = (18446744073709551616 : Int) * pw (E - 64) := by
    rw [show (18446744073709551616 : Int) = p2 64 from rfl, ← pw_p2 (by decide), ← pw_add]; congr 1; omega
  have uG : (N : Rat) * pw G * (p2 (E - G) : Rat) = (N * 18446744073709551616 : Int) * pw (E - 64) := by
    have : pw G * (p2 (E - G) : Rat) = pw E := by rw [← pw_p2 (by omega), ← pw_add]; congr 1; omega
    rw [Rat.mul_assoc, this, uE]; push_cast; grind
  have hPr : (0 : Rat) < (p2 (E - G) : Rat) := by exact_mod_cast hP
  -- the lesser one lies between Q and Q + 1
  have hlow0 : R = 0 → (N : Rat) * pw G = (Q : Rat) * pw (E - 64) := by
    intro h
    have h1 : (N * 18446744073709551616 : Int) = p2 (E - G) * Q := by omega
    rw [h1] at uG
    have h2 : (p2 (E - G) : Rat) * ((N : Rat) * pw G) = (p2 (E - G) : Rat) * ((Q : Rat) * pw (E - 64)) := by push_cast at uG; grind
    exact Rat.le_antisymm (Rat.le_of_mul_le_mul_left (by rw [h2]; exact Rat.le_refl) hPr) (Rat.le_of_mul_le_mul_left (by rw [h2]; exact Rat.le_refl) hPr)
  have hlow1 : R ≠ 0 → (Q : Rat) * pw (E - 64) < (N : Rat) * pw G ∧ (N : Rat) * pw G < (Q + 1 : Int) * pw (E - 64) := by
    intro h
    constructor
    · refine Rat.lt_of_mul_lt_mul_left (c := (p2 (E - G) : Rat)) ?_ (Rat.le_of_lt hPr)
      have h1 : (p2 (E - G) * Q : Int) * pw (E - 64) < (N * 18446744073709551616 : Int) * pw (E - 64) := mul_pw_lt.mpr (by omega)
      rw [← uG] at h1
      push_cast at h1; grind
    · refine Rat.lt_of_mul_lt_mul_left (c := (p2 (E - G) : Rat)) ?_ (Rat.le_of_lt hPr)
      have e2 : p2 (E - G) * (Q + 1) = p2 (E - G) * Q + p2 (E - G) := by grind
      have h1 : (N * 18446744073709551616 : Int) * pw (E - 64) < (p2 (E - G) * (Q + 1) : Int) * pw (E - 64) := mul_pw_lt.mpr (by omega)
      rw [← uG] at h1
      push_cast at h1 ⊢; grind
  have hbig : R ≠ 0 → 4503599627370496 ≤ M ∧ Q < 9007199254740992 := by
    intro h
    have hlt : 64 < E - G := by
      refine Decidable.byContradiction fun hc => h ?_
      have : (18446744073709551616 : Int) = p2 (64 - (E - G)) * p2 (E - G) := by rw [← p2_64, ← p2_add (by omega) (by omega)]; congr 1; omega
      rw [← hR, this, ← Int.mul_assoc]
      exact Int.mul_emod_left _ _
    refine ⟨by omega, ?_⟩
    rw [← hQ]
    apply Int.ediv_lt_of_lt_mul hP
    have h64 : 18446744073709551616 ≤ p2 (E - G) := by rw [← p2_64]; exact p2_le (by omega)
    have := Int.mul_le_mul_of_nonneg_left h64 (show (0 : Int) ≤ 9007199254740992 by decide)
    omega
  refine Exists.elim (?_ : ∃ rf : Int × Int, Ev (fun k => soft_Add.j2 k a b) rf ∧ Rd (val a + val b) (neg a && neg b) rf.1 rf.2) (fun rf h => ⟨rf.1, rf.2, h⟩)
  have aM : (M : Rat) * pw E = (M * 18446744073709551616 : Int) * pw (E - 64) := by rw [uE]; push_cast; grind
  -- the head of j2
  have start : ∀ rf : Int × Int, Ev (fun k => if (neg a == neg b) = true then ((wide_Wide_Add.f M 0 qh ql).bind fun bt189 => ((word_Neg.f a).bind fun t193 => ((round_Round.f k t193 bt189.1 bt189.2.1 (E - 64) (decide (R ≠ 0))).bind fun bt194 => (some (bt194.1, bt194.2)))))
      else (if decide (R ≠ 0) = true then ((wide_Wide_Add.f qh ql 0 1).bind fun bt196 => (soft_Add.j3 k a E (decide (R ≠ 0)) M 0 bt196.1 bt196.2.1)) else (soft_Add.j3 k a E (decide (R ≠ 0)) M 0 qh ql))) rf → Ev (fun k => soft_Add.j2 k a b) rf := by
    intro rf h
    refine Ev.succ ?_
    simp only [soft_Add.j2]
    refine Ev.bind pa (Ev.bind pb (Ev.call (wl64 (by omega) (by omega)) (Ev.call (wl64 (by omega) (by omega)) ?_)))
    dsimp only
    rw [w64 (x := E - G) (by omega) (by omega), w64 (x := E - 64) (by omega) (by omega)]
    refine Ev.bind evq (Ev.call (word_Neg_eq ha) (Ev.call (word_Neg_eq hb) ?_))
    exact h
  by_cases hs : neg a = neg b
  · -- like signs
    obtain ⟨sh, sl, es, us1, us2, ev⟩ := wide_Add_eq UM U_0 uq1 uq2
    rw [wM, eq] at ev es
    have evs : wv sh sl = M * 18446744073709551616 + Q := by rw [ev]; exact Int.emod_eq_of_lt (by omega) (by omega)
    have hx : rabs (val a + val b) = vm (mag a) + vm (mag b) := by
      have := vm_pos za; have := vm_pos zb
      rw [val_eq a, val_eq b, ← hs]
      unfold rabs
      cases neg a <;> simp <;> grind
    have hne : val a + val b ≠ 0 := by
      have := vm_pos za; have := vm_pos zb
      intro h
      rw [h] at hx
      have : rabs 0 = 0 := rfl
      grind
    have hsg : decide (val a + val b < 0) = neg a := by
      have := vm_pos za; have := vm_pos zb
      rw [val_eq a, val_eq b, ← hs]
      cases neg a <;> simp <;> grind
    have hblen : 54 ≤ blen (M * 18446744073709551616 + Q) := by
      obtain ⟨b1, b2, b3⟩ := blen_pos (x := M * 18446744073709551616 + Q) (by omega)
      refine Decidable.byContradiction fun hc => ?_
      have := p2_le (show blen (M * 18446744073709551616 + Q) ≤ 53 from by omega)
      have e53 : p2 53 = 9007199254740992 := by decide
      omega
    obtain ⟨m, f, er, rb⟩ := round_Round_ev (neg a) us1 us2 (E := E - 64) (by omega) (by omega) (decide (R ≠ 0)) (x := vm (mag a) + vm (mag b)) (by omega)
      (by intro h; have h : R = 0 := by simpa using h
          rw [va, vb, hlow0 h, aM, evs]; push_cast; grind)
      (by intro h; have h : R ≠ 0 := by simpa using h
          refine ⟨?_, by rw [evs]; exact hblen⟩
          obtain ⟨l1, l2⟩ := hlow1 h
          rw [va, vb, aM, evs]
          push_cast at l2 ⊢
          constructor <;> grind)
    refine ⟨(signed (neg a) m, f), start _ (Ev.pos (by simp [hs]) (Ev.call es (Ev.call (word_Neg_eq ha) ?_))), ⟨fun h => absurd h hne, fun _ => ⟨m, by rw [hx]; exact rb, by rw [hsg]⟩⟩⟩
    dsimp only
    exact Ev.bind er (Ev.now _)
  · -- unlike signs
    have hz : (neg a && neg b) = false := by revert hs; cases neg a <;> cases neg b <;> simp
    have hx : rabs (val a + val b) = vm (mag a) - vm (mag b) := by
      have := vm_pos za; have := vm_pos zb
      rw [val_eq a, val_eq b]
      unfold rabs
      revert hs
      cases neg a <;> cases neg b <;> simp <;> grind
    have hsg : val a + val b ≠ 0 → decide (val a + val b < 0) = neg a := by
      have := vm_pos za; have := vm_pos zb
      rw [val_eq a, val_eq b]
      revert hs
      cases neg a <;> cases neg b <;> simp <;> grind
    have tail : ∀ (sh sl : Int), U sh → U sl → ∀ low : Bool, low = decide (R ≠ 0) → wv sh sl = M * 18446744073709551616 - (if R = 0 then Q else Q + 1) → ¬ (wv sh sl = 0 ∧ low = false) →
        ∃ rf : Int × Int, Ev (fun k => soft_Add.j4 k a E low false sh sl) rf ∧ Rd (val a + val b) (neg a && neg b) rf.1 rf.2 := by
      intro sh sl us1 us2 low hl evs hnz
      have hpos : 0 < wv sh sl := by
        have := (wv_range us1 us2).1
        by_cases c : R = 0
        · have hl' : low = false := by rw [hl]; simp [c]
          have : wv sh sl ≠ 0 := fun h => hnz ⟨h, hl'⟩
          omega
        · obtain ⟨b1, b2⟩ := hbig c
          rw [if_neg c] at evs
          omega
      have hblen : R ≠ 0 → 54 ≤ blen (wv sh sl) := by
        intro c
        obtain ⟨b1, b2⟩ := hbig c
        rw [if_neg c] at evs
        obtain ⟨c1, c2, c3⟩ := blen_pos hpos
        refine Decidable.byContradiction fun hc => ?_
        have := p2_le (show blen (wv sh sl) ≤ 53 from by omega)
        have e53 : p2 53 = 9007199254740992 := by decide
        omega
      obtain ⟨m, f, er, rb⟩ := round_Round_ev (neg a) us1 us2 (E := E - 64) (by omega) (by omega) low (x := vm (mag a) - vm (mag b)) hpos
        (by intro h; have h : R = 0 := by rw [hl] at h; simpa using h
            rw [if_pos h] at evs
            rw [va, vb, hlow0 h, aM, evs]; push_cast; grind)
        (by intro h; have h : R ≠ 0 := by rw [hl] at h; simpa using h
            refine ⟨?_, hblen h⟩
            rw [if_neg h] at evs
            obtain ⟨l1, l2⟩ := hlow1 h
            rw [va, vb, aM, evs]
            push_cast at l2 ⊢
            constructor <;> grind)
      have hxne : val a + val b ≠ 0 := by
        intro h
        have h1 : rabs (val a + val b) = 0 := by rw [h]; rfl
        obtain ⟨q, n, hq, _⟩ := rb.ex
        have := hq.pos
        rw [hx] at h1
        grind
      refine ⟨(signed (neg a) m, f), Ev.succ ?_, ⟨fun h => absurd h hxne, fun _ => ⟨m, by rw [hx]; exact rb, by rw [hsg hxne]⟩⟩⟩
      simp only [soft_Add.j4]
      refine Ev.neg (by decide) (Ev.call (word_Neg_eq ha) ?_)
      rw [w64 (x := E - 64) (by omega) (by omega)]
      exact Ev.bind er (Ev.now _)
    -- the lesser one isn't greater
    have hQM : (if R = 0 then Q else Q + 1) ≤ M * 18446744073709551616 := by
      by_cases c : R = 0
      · rw [if_pos c]
        have : (Q : Rat) * pw (E - 64) ≤ (M * 18446744073709551616 : Int) * pw (E - 64) := by rw [← hlow0 c, ← aM, ← va, ← vb]; exact hvle
        exact mul_pw_le.mp this
      · rw [if_neg c]
        have := hbig c
        omega
    have j3 : ∀ (qh' ql' : Int), U qh' → U ql' → wv qh' ql' = (if R = 0 then Q else Q + 1) →
        ∃ rf : Int × Int, Ev (fun k => soft_Add.j3 k a E (decide (R ≠ 0)) M 0 qh' ql') rf ∧ Rd (val a + val b) (neg a && neg b) rf.1 rf.2 := by
      intro qh' ql' u1 u2 e
      obtain ⟨sh, sl, es, us1, us2, evs⟩ := wide_Sub_eq UM U_0 u1 u2 (by rw [wM, e]; exact hQM)
      rw [wM, e] at evs
      by_cases hz0 : wv sh sl = 0
      · by_cases c : R = 0
        · -- nothing is left
          refine ⟨(0, 0), Ev.succ ?_, ⟨fun _ => ⟨by rw [hz]; rfl, rfl⟩, fun h => absurd ?_ h⟩⟩
          · simp only [soft_Add.j3]
            refine Ev.call es (Ev.call (wide_Zero_eq us1 us2) ?_)
            rw [decide_eq_true hz0]
            refine Ev.pos rfl (Ev.succ ?_)
            simp only [soft_Add.j4]
            exact Ev.pos (by simp [c]) (Ev.now _)
          · have h1 : rabs (val a + val b) = 0 := by
              rw [hx, va, vb, hlow0 c, aM]
              rw [if_pos c, hz0] at evs
              have : M * 18446744073709551616 = Q := by omega
              rw [this]; grind
            unfold rabs at h1; grind
        · obtain ⟨rf, ev, rd⟩ := tail sh sl us1 us2 _ rfl evs (by simp [c])
          refine ⟨rf, Ev.succ ?_, rd⟩
          simp only [soft_Add.j3]
          refine Ev.call es (Ev.call (wide_Zero_eq us1 us2) ?_)
          rw [decide_eq_true hz0]
          refine Ev.pos rfl ?_
          rw [show (!decide (R ≠ 0)) = false from by simp [c]]
          exact ev
      · obtain ⟨rf, ev, rd⟩ := tail sh sl us1 us2 _ rfl evs (fun h => hz0 h.1)
        refine ⟨rf, Ev.succ ?_, rd⟩
        simp only [soft_Add.j3]
        refine Ev.call es (Ev.call (wide_Zero_eq us1 us2) ?_)
        rw [decide_eq_false hz0]
        exact Ev.neg (by decide) ev
    by_cases c : R = 0
    · obtain ⟨rf, ev, rd⟩ := j3 qh ql uq1 uq2 (by rw [if_pos c]; exact eq)
      refine ⟨rf, start _ (Ev.neg (by simp [hs]) (Ev.neg (by simp [c]) ev)), rd⟩
    · obtain ⟨ah, al, ea, ua1, ua2, eva⟩ := wide_Add_eq uq1 uq2 U_0 U_1
      have e1 : wv 0 1 = 1 := by unfold wv; omega
      rw [eq, e1, Int.emod_eq_of_lt (by omega) (by omega)] at eva
      obtain ⟨rf, ev, rd⟩ := j3 ah al ua1 ua2 (by rw [if_neg c]; exact eva)
      refine ⟨rf, start _ (Ev.neg (by simp [hs]) (Ev.pos (by simp [c]) (Ev.call ea ?_))), rd⟩
      exact ev

theorem zero_two {a : Int} (ha : U a) (h : mag a = 0) : a = if neg a then 9223372036854775808 else 0 := by
  obtain ⟨h0, h1⟩ := ha
  unfold mag at h
  unfold neg
  by_cases c : 9223372036854775808 ≤ a
  · rw [decide_eq_true c]; simp; omega
  · rw [decide_eq_false c]; simp; omega
/-- ADD: of two numbers. -/
theorem add_fin {a b : Int} (ha : U a) (hb : U b) (fa : fin a) (fb : fin b) : ∃ r f, Ev (fun k => soft_Add.f k a b) (r, f) ∧ Rd (val a + val b) (neg a && neg b) r f := by
  have ka : kindOf (mag a) ≠ 4 := fun h => by have := kind_inf.mp h; unfold fin at fa; omega
  have kb : kindOf (mag b) ≠ 4 := fun h => by have := kind_inf.mp h; unfold fin at fb; omega
  have step : ∀ rf : Int × Int, Ev (fun k => soft_Add.j1 k a b (kindOf (mag a)) (kindOf (mag b)) (if kindOf (mag a) = 1 then (kindOf (mag b) == 1) else false)) rf → Ev (fun k => soft_Add.f k a b) rf := by
    intro rf h
    refine add_kinds ha hb (by rw [fin_nan fa, fin_nan fb]; rfl) ?_
    rw [if_neg ka]
    refine Ev.succ ?_
    simp only [soft_Add.j0]
    refine Ev.neg (by decide) (Ev.neg ka (Ev.neg kb ?_))
    by_cases c : kindOf (mag a) = 1
    · rw [if_pos c] at h; exact Ev.pos c h
    · rw [if_neg c] at h; exact Ev.neg c h
  by_cases za : mag a = 0
  · have k1 := kind_zero.mpr za
    by_cases zb : mag b = 0
    · have k2 := kind_zero.mpr zb
      refine ⟨bits .and .u64 a b, 0, step _ (Ev.succ ?_), ?_⟩
      · simp only [soft_Add.j1]
        exact Ev.pos (by rw [if_pos k1, k2]; rfl) (Ev.now _)
      · have h0 : val a + val b = 0 := by rw [val_zero_iff.mpr za, val_zero_iff.mpr zb]; grind
        refine ⟨fun _ => ⟨?_, rfl⟩, fun h => absurd h0 h⟩
        have e1 := zero_two ha za
        have e2 := zero_two hb zb
        rw [e1, e2]
        cases neg a <;> cases neg b <;> decide
    · have k2 : ¬ kindOf (mag b) = 1 := fun h => zb (kind_zero.mp h)
      refine ⟨b, 0, step _ (Ev.succ ?_), ?_⟩
      · simp only [soft_Add.j1]
        exact Ev.neg (by rw [if_pos k1]; simpa using k2) (Ev.pos k1 (Ev.now _))
      · rw [val_zero_iff.mpr za, show (0 : Rat) + val b = val b from by grind]
        exact Rd.self hb fb zb _
  · have k1 : ¬ kindOf (mag a) = 1 := fun h => za (kind_zero.mp h)
    by_cases zb : mag b = 0
    · have k2 := kind_zero.mpr zb
      refine ⟨a, 0, step _ (Ev.succ ?_), ?_⟩
      · simp only [soft_Add.j1]
        exact Ev.neg (by rw [if_neg k1]; decide) (Ev.neg k1 (Ev.pos k2 (Ev.now _)))
      · rw [val_zero_iff.mpr zb, show val a + (0 : Rat) = val a from by grind]
        exact Rd.self ha fa za _
    · have k2 : ¬ kindOf (mag b) = 1 := fun h => zb (kind_zero.mp h)
      have m0 := (mag_lt (a := a)).1
      have m1 := (mag_lt (a := b)).1
      by_cases hlt : mag a < mag b
      · obtain ⟨r, f, ev, rd⟩ := add_j2 hb ha fb fa (by omega) (by omega) (by omega)
        refine ⟨r, f, step _ (Ev.succ ?_), by rw [show val a + val b = val b + val a from by grind, Bool.and_comm]; exact rd⟩
        simp only [soft_Add.j1]
        exact Ev.neg (by rw [if_neg k1]; decide) (Ev.neg k1 (Ev.neg k2 (Ev.call (word_Abs_eq ha) (Ev.call (word_Abs_eq hb) (Ev.pos hlt ev)))))
      · obtain ⟨r, f, ev, rd⟩ := add_j2 ha hb fa fb (by omega) (by omega) (by omega)
        refine ⟨r, f, step _ (Ev.succ ?_), rd⟩
        simp only [soft_Add.j1]
        exact Ev.neg (by rw [if_neg k1]; decide) (Ev.neg k1 (Ev.neg k2 (Ev.call (word_Abs_eq ha) (Ev.call (word_Abs_eq hb) (Ev.neg hlt ev)))))

theorem fin_flip {a : Int} (h : U a) (f : fin a) : fin (flip a) := by unfold fin; rw [mag_flip h]; exact f
def AddR (a b r f : Int) : Prop :=
  if (isNan a || isNan b) = true then r = QNAN ∧ f = nanF a b
  else if mag a = INF then (if mag b = INF ∧ a ≠ b then r = QNAN ∧ f = 16 else r = a ∧ f = 0)
  else if mag b = INF then r = b ∧ f = 0
  else Rd (val a + val b) (neg a && neg b) r f
theorem add_ev {a b : Int} (ha : U a) (hb : U b) : ∃ r f, Ev (fun k => soft_Add.f k a b) (r, f) ∧ AddR a b r f := by
  unfold AddR
  by_cases h : (isNan a || isNan b) = true
  · exact ⟨_, _, add_nan ha hb h, by rw [if_pos h]; exact ⟨rfl, rfl⟩⟩
  · obtain ⟨h0, na, nb⟩ := nan_or h
    by_cases ia : mag a = INF
    · by_cases ib : mag b = INF ∧ a ≠ b
      · exact ⟨_, _, add_inf2 ha hb ia ib.1 ib.2, by rw [if_neg h, if_pos ia, if_pos ib]; exact ⟨rfl, rfl⟩⟩
      · refine ⟨_, _, add_infa ha hb ia nb ?_, by rw [if_neg h, if_pos ia, if_neg ib]; exact ⟨rfl, rfl⟩⟩
        by_cases c : a = b
        · exact .inl c
        · exact .inr (fun hh => ib ⟨hh, c⟩)
    · by_cases ib : mag b = INF
      · exact ⟨_, _, add_infb ha hb (fin_of na ia) ib, by rw [if_neg h, if_neg ia, if_pos ib]; exact ⟨rfl, rfl⟩⟩
      · obtain ⟨r, f, ev, rd⟩ := add_fin ha hb (fin_of na ia) (fin_of nb ib)
        exact ⟨r, f, ev, by rw [if_neg h, if_neg ia, if_neg ib]; exact rd⟩
theorem AddR.unique {a b r f r' f' : Int} (h : AddR a b r f) (h' : AddR a b r' f') : r = r' ∧ f = f' := by
  unfold AddR at h h'
  by_cases c1 : (isNan a || isNan b) = true
  · rw [if_pos c1] at h h'; omega
  · rw [if_neg c1] at h h'
    by_cases c2 : mag a = INF
    · rw [if_pos c2] at h h'
      by_cases c3 : mag b = INF ∧ a ≠ b
      · rw [if_pos c3] at h h'; omega
      · rw [if_neg c3] at h h'; omega
    · rw [if_neg c2] at h h'
      by_cases c3 : mag b = INF
      · rw [if_pos c3] at h h'; omega
      · rw [if_neg c3] at h h'; exact h.unique h'
theorem AddR.comm {a b r f : Int} (h : AddR a b r f) : AddR b a r f := by
  unfold AddR at h ⊢
  rw [Bool.or_comm (isNan b), nanF_comm b]
  by_cases c1 : (isNan a || isNan b) = true
  · rw [if_pos c1] at h ⊢; exact h
  · rw [if_neg c1] at h ⊢
    by_cases c2 : mag a = INF
    · rw [if_pos c2] at h
      by_cases c3 : mag b = INF
      · rw [if_pos c3]
        by_cases c4 : a = b
        · subst c4; rw [if_neg (by simp)] at h ⊢; exact h
        · rw [if_pos ⟨c3, c4⟩] at h; rw [if_pos ⟨c2, fun hh => c4 hh.symm⟩]; exact h
      · rw [if_neg c3, if_pos c2]; rw [if_neg (fun hh => c3 hh.1)] at h; exact h
    · rw [if_neg c2] at h
      by_cases c3 : mag b = INF
      · rw [if_pos c3] at h ⊢; rw [if_neg (fun hh => c2 hh.1)]; exact h
      · rw [if_neg c3] at h ⊢; rw [if_neg c2, Bool.and_comm, show val b + val a = val a + val b from by grind]; exact h
theorem AddR.fin {a b r f : Int} (fa : fin a) (fb : fin b) : AddR a b r f ↔ Rd (val a + val b) (neg a && neg b) r f := by
  unfold AddR; rw [fin_nan fa, fin_nan fb, if_neg (by decide), if_neg (not_inf fa), if_neg (not_inf fb)]
theorem AddR.flags {a b r f : Int} (h : AddR a b r f) : 0 ≤ f ∧ f ≤ 16 := by
  have := nanF_le a b
  unfold AddR at h
  split at h
  · omega
  · split at h
    · split at h <;> omega
    · split at h
      · omega
      · exact h.flags
theorem AddR.range {a b r f : Int} (ha : U a) (hb : U b) (h : AddR a b r f) : U r := by
  unfold AddR at h
  have q : U QNAN := by unfold QNAN U; decide
  split at h
  · rw [h.1]; exact q
  · split at h
    · split at h
      · rw [h.1]; exact q
      · rw [h.1]; exact ha
    · split at h
      · rw [h.1]; exact hb
      · exact h.range.1
end Gim
