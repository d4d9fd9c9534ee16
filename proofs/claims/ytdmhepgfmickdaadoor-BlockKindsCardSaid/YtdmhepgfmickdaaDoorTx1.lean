/- Texts of this claim, one behind the other: what the functions answer. -/
import Derived.Test.YtdmhepgfmickdaaDoorTx0
import Derived.Test.YtdmhepgfmickdaaDoorRx0
set_option linter.constructorNameAsVariable false
set_option linter.unusedSimpArgs false
set_option linter.unusedVariables false
set_option linter.unusedSectionVars false
namespace Gim
open Go Go.RowKit Go.Proofs.YtdmhepgfmickdaaDoorW.PrintWords Go.Proofs.YtdmhepgfmickdaaDoorW.PrintLast Go.Proofs.YtdmhepgfmickdaaDoorW.PrintMore Go.Proofs.YtdmhepgfmickdaaDoor.F
set_option linter.unusedVariables false

theorem add_nan {a b : Int} (ha : U a) (hb : U b) (h : (isNan a || isNan b) = true) : Ev (fun k => soft_Add.f k a b) (QNAN, nanF a b) := by
  unfold soft_Add.f
  refine Ev.bind (soft_nan2 ha hb) ?_
  exact Ev.pos h (Ev.now _)
theorem add_kinds {a b : Int} (ha : U a) (hb : U b) (h : (isNan a || isNan b) = false) {r : Int × Int}
    (hk : Ev (fun k => soft_Add.j0 k a b (kindOf (mag a)) (kindOf (mag b)) (if kindOf (mag a) = 4 then (if kindOf (mag b) = 4 then a != b else false) else false)) r) : Ev (fun k => soft_Add.f k a b) r := by
  unfold soft_Add.f
  refine Ev.bind (soft_nan2 ha hb) (Ev.neg (by simp only [h]; decide) (Ev.bind (word_Kind_ev ha) (Ev.bind (word_Kind_ev hb) ?_)))
  rw [kind_mag, kind_mag]
  by_cases c1 : kindOf (mag a) = 4
  · by_cases c2 : kindOf (mag b) = 4
    · rw [if_pos c1, if_pos c2] at hk; exact Ev.pos c1 (Ev.pos c2 hk)
    · rw [if_pos c1, if_neg c2] at hk; exact Ev.pos c1 (Ev.neg c2 hk)
  · rw [if_neg c1] at hk; exact Ev.neg c1 hk
theorem add_inf2 {a b : Int} (ha : U a) (hb : U b) (h1 : mag a = INF) (h2 : mag b = INF) (h3 : a ≠ b) : Ev (fun k => soft_Add.f k a b) (QNAN, 16) := by
  refine add_kinds ha hb (by unfold isNan; rw [h1, h2]; decide) ?_
  rw [if_pos (kind_inf.mpr h1), if_pos (kind_inf.mpr h2)]
  refine Ev.succ ?_
  simp only [soft_Add.j0]
  exact Ev.pos (by simp [h3]) (Ev.now _)
theorem add_infa {a b : Int} (ha : U a) (hb : U b) (h1 : mag a = INF) (h2 : isNan b = false) (h3 : a = b ∨ mag b ≠ INF) : Ev (fun k => soft_Add.f k a b) (a, 0) := by
  refine add_kinds ha hb (by rw [h2]; unfold isNan; rw [h1]; decide) ?_
  refine Ev.succ ?_
  simp only [soft_Add.j0]
  refine Ev.neg ?_ (Ev.pos (kind_inf.mpr h1) (Ev.now _))
  rw [if_pos (kind_inf.mpr h1)]
  rcases h3 with h3 | h3
  · subst h3; simp
  · rw [if_neg (fun h => h3 (kind_inf.mp h))]; decide
theorem add_infb {a b : Int} (ha : U a) (hb : U b) (h1 : fin a) (h2 : mag b = INF) : Ev (fun k => soft_Add.f k a b) (b, 0) := by
  have hn : kindOf (mag a) ≠ 4 := fun h => by have := kind_inf.mp h; unfold fin at h1; omega
  refine add_kinds ha hb (by rw [fin_nan h1]; unfold isNan; rw [h2]; decide) ?_
  refine Ev.succ ?_
  simp only [soft_Add.j0]
  rw [if_neg hn]
  exact Ev.neg (by decide) (Ev.neg hn (Ev.pos (kind_inf.mpr h2) (Ev.now _)))

theorem wide_Sub_eq {h l h' l' : Int} (hh : U h) (hl : U l) (hh' : U h') (hl' : U l') (hle : wv h' l' ≤ wv h l) : ∃ a b, wide_Wide_Sub.f h l h' l' = some (a, b, false) ∧ U a ∧ U b ∧ wv a b = wv h l - wv h' l' := by
  obtain ⟨x0, x1⟩ := hh; obtain ⟨x2, x3⟩ := hl; obtain ⟨x4, x5⟩ := hh'; obtain ⟨x6, x7⟩ := hl'
  unfold wide_Wide_Sub.f bits_Sub64.f
  rw [if_pos ⟨x2, x6, x7, by decide, by decide⟩]
  simp only [Option.bind_some]
  unfold wv at hle
  by_cases c : l < l' + 0
  · rw [if_pos c, if_pos ⟨x0, x4, x5, by decide, by decide⟩]
    simp only [Option.bind_some]
    refine ⟨_, _, congrArg some (Prod.ext rfl (Prod.ext rfl ?_)), ⟨by omega, by omega⟩, ⟨by omega, by omega⟩, ?_⟩
    · rw [if_neg (by omega)]; rfl
    · unfold wv; omega
  · rw [if_neg c, if_pos ⟨x0, x4, x5, by decide, by decide⟩]
    simp only [Option.bind_some]
    refine ⟨_, _, congrArg some (Prod.ext rfl (Prod.ext rfl ?_)), ⟨by omega, by omega⟩, ⟨by omega, by omega⟩, ?_⟩
    · rw [if_neg (by omega)]; rfl
    · unfold wv; omega
theorem add_j2 {a b : Int} (ha : U a) (hb : U b) (fa : fin a) (fb : fin b) (za : 0 < mag a) (zb : 0 < mag b) (hle : mag b ≤ mag a) :
    ∃ r f, Ev (fun k => soft_Add.j2 k a b) (r, f) ∧ Rd (val a + val b) (neg a && neg b) r f := by
  have pa := word_Parts_ev ha za fa
  have pb := word_Parts_ev hb zb fb
  obtain ⟨ea1, ea2⟩ := fin_expo fa
  obtain ⟨eb1, eb2⟩ := fin_expo fb
  have hex : expo (mag b) ≤ expo (mag a) := expo_mono (by omega) hle
  have ma := mant_pos za
  have ma' := mant_lt (m := mag a)
  have mga := mant_ge (m := mag a) (by omega)
  have mb := mant_pos zb
  have mb' := mant_lt (m := mag b)
  have va : vm (mag a) = (mant (mag a) : Rat) * pw (expo (mag a)) := rfl
  have vb : vm (mag b) = (mant (mag b) : Rat) * pw (expo (mag b)) := rfl
  have hvle : vm (mag b) ≤ vm (mag a) := vm_mono (by omega) hle
  generalize hM : mant (mag a) = M at *
  generalize hN : mant (mag b) = N at *
  generalize hE : expo (mag a) = E at *
  generalize hG : expo (mag b) = G at *
  have emag : ∀ c : Int, c % 9223372036854775808 = mag c := fun _ => rfl
  rw [emag, hM, hE] at pa
  rw [emag, hN, hG] at pb
  have UM : U M := ⟨by omega, by omega⟩
  have UN : U N := ⟨by omega, by omega⟩
  obtain ⟨qh, ql, evq, uq1, uq2, eq⟩ := wide_Right_ev (h := N) (l := 0) (n := E - G) UN U_0 (by omega)
  have wN : wv N 0 = N * 18446744073709551616 := by unfold wv; omega
  have wM : wv M 0 = M * 18446744073709551616 := by unfold wv; omega
  rw [wN] at evq eq
  have hP := p2_pos (E - G)
  have dm := Int.mul_ediv_add_emod (N * 18446744073709551616) (p2 (E - G))
  have r0 := Int.emod_nonneg (N * 18446744073709551616) (Int.ne_of_gt hP)
  have r1 := Int.emod_lt_of_pos (N * 18446744073709551616) hP
  have q0 : 0 ≤ N * 18446744073709551616 / p2 (E - G) := Int.ediv_nonneg (by omega) (Int.le_of_lt hP)
  have q1 : N * 18446744073709551616 / p2 (E - G) ≤ N * 18446744073709551616 := Int.ediv_le_self _ (by omega)
  generalize hQ : N * 18446744073709551616 / p2 (E - G) = Q at *
  generalize hR : N * 18446744073709551616 % p2 (E - G) = R at *
  -- in units of 2^(E - 64)
  have hu := pw_pos (E - 64)
  have uE : pw E = (18446744073709551616 : Int) * pw (E - 64) := by
    rw [show (18446744073709551616 : Int) = p2 64 from rfl, ← pw_p2 (by decide), ← pw_add]; congr 1; omega
  have uG : (N : Rat) * pw G * (p2 (E - G) : Rat) = (N * 18446744073709551616 : Int) * pw (E - 64) := by
    have : pw G * (p2 (E - G) : Rat) = pw E := by rw [← pw_p2 (by omega), ← pw_add]; congr 1; omega
    rw [Rat.mul_assoc, this, uE]; push_cast; grind
  have hPr : (0 : Rat) < (p2 (E - G) : Rat) := by exact_mod_cast hP
  -- the lesser one lies between Q and Q + 1
  have hlow0 : R = 0 → (N : Rat) * pw G = (Q : Rat) * pw (E - 64) := by
    intro h
    have h1 : (N * 18446744073709551616 : Int) = p2 (E - G) * Q := by omega
    rw [h1] at uG
    have h2 : (p2 (E - G) : Rat) * ((N : Rat) * pw G) = (p2 (E - G) : Rat) * ((Q : Rat) * pw (E - 64)) := by push_cast at uG; grind
    exact Rat.le_antisymm (Rat.le_of_mul_le_mul_left (by rw [h2]; exact Rat.le_refl) hPr) (Rat.le_of_mul_le_mul_left (by rw [h2]; exact Rat.le_refl) hPr)
  have hlow1 : R ≠ 0 → (Q : Rat) * pw (E - 64) < (N : Rat) * pw G ∧ (N : Rat) * pw G < (Q + 1 : Int) * pw (E - 64) := by
    intro h
    constructor
    · refine Rat.lt_of_mul_lt_mul_left (c := (p2 (E - G) : Rat)) ?_ (Rat.le_of_lt hPr)
      have h1 : (p2 (E - G) * Q : Int) * pw (E - 64) < (N * 18446744073709551616 : Int) * pw (E - 64) := mul_pw_lt.mpr (by omega)
      rw [← uG] at h1
      push_cast at h1; grind
    · refine Rat.lt_of_mul_lt_mul_left (c := (p2 (E - G) : Rat)) ?_ (Rat.le_of_lt hPr)
      have e2 : p2 (E - G) * (Q + 1) = p2 (E - G) * Q + p2 (E - G) := by grind
      have h1 : (N * 18446744073709551616 : Int) * pw (E - 64) < (p2 (E - G) * (Q + 1) : Int) * pw (E - 64) := mul_pw_lt.mpr (by omega)
      rw [← uG] at h1
      push_cast at h1 ⊢; grind
  have hbig : R ≠ 0 → 4503599627370496 ≤ M ∧ Q < 9007199254740992 := by
    intro h
    have hlt : 64 < E - G := by
      refine Decidable.byContradiction fun hc => h ?_
      have : (18446744073709551616 : Int) = p2 (64 - (E - G)) * p2 (E - G) := by rw [← p2_64, ← p2_add (by omega) (by omega)]; congr 1; omega
      rw [← hR, this, ← Int.mul_assoc]
      exact Int.mul_emod_left _ _
    refine ⟨by omega, ?_⟩
    rw [← hQ]
    apply Int.ediv_lt_of_lt_mul hP
    have h64 : 18446744073709551616 ≤ p2 (E - G) := by rw [← p2_64]; exact p2_le (by omega)
    have := Int.mul_le_mul_of_nonneg_left h64 (show (0 : Int) ≤ 9007199254740992 by decide)
    omega
  refine Exists.elim (?_ : ∃ rf : Int × Int, Ev (fun k => soft_Add.j2 k a b) rf ∧ Rd (val a + val b) (neg a && neg b) rf.1 rf.2) (fun rf h => ⟨rf.1, rf.2, h⟩)
  have aM : (M : Rat) * pw E = (M * 18446744073709551616 : Int) * pw (E - 64) := by rw [uE]; push_cast; grind
  -- the head of j2
  have start : ∀ rf : Int × Int, Ev (fun k => if (neg a == neg b) = true then ((wide_Wide_Add.f M 0 qh ql).bind fun bt189 => ((word_Neg.f a).bind fun t193 => ((round_Round.f k t193 bt189.1 bt189.2.1 (E - 64) (decide (R ≠ 0))).bind fun bt194 => (some (bt194.1, bt194.2)))))
      else (if decide (R ≠ 0) = true then ((wide_Wide_Add.f qh ql 0 1).bind fun bt196 => (soft_Add.j3 k a E (decide (R ≠ 0)) M 0 bt196.1 bt196.2.1)) else (soft_Add.j3 k a E (decide (R ≠ 0)) M 0 qh ql))) rf → Ev (fun k => soft_Add.j2 k a b) rf := by
    intro rf h
    refine Ev.succ ?_
    simp only [soft_Add.j2]
    refine Ev.bind pa (Ev.bind pb (Ev.call (wl64 (by omega) (by omega)) (Ev.call (wl64 (by omega) (by omega)) ?_)))
    dsimp only
    rw [w64 (x := E - G) (by omega) (by omega), w64 (x := E - 64) (by omega) (by omega)]
    refine Ev.bind evq (Ev.call (word_Neg_eq ha) (Ev.call (word_Neg_eq hb) ?_))
    refine Ev.same (fun k => ?_) h
    by_cases c : R ≠ 0
    · rw [decide_eq_true c]; rfl
    · rw [decide_eq_false c]; rfl
  by_cases hs : neg a = neg b
  · -- like signs
    obtain ⟨sh, sl, es, us1, us2, ev⟩ := wide_Add_eq UM U_0 uq1 uq2
    rw [wM, eq] at ev es
    have evs : wv sh sl = M * 18446744073709551616 + Q := by rw [ev]; exact Int.emod_eq_of_lt (by omega) (by omega)
    have hx : rabs (val a + val b) = vm (mag a) + vm (mag b) := by
      have := vm_pos za; have := vm_pos zb
      rw [val_eq a, val_eq b, ← hs]
      unfold rabs
      cases neg a <;> simp <;> grind
    have hne : val a + val b ≠ 0 := by
      have := vm_pos za; have := vm_pos zb
      intro h
      rw [h] at hx
      have : rabs 0 = 0 := rfl
      grind
    have hsg : decide (val a + val b < 0) = neg a := by
      have := vm_pos za; have := vm_pos zb
      rw [val_eq a, val_eq b, ← hs]
      cases neg a <;> simp <;> grind
    have hblen : 54 ≤ blen (M * 18446744073709551616 + Q) := by
      obtain ⟨b1, b2, b3⟩ := blen_pos (x := M * 18446744073709551616 + Q) (by omega)
      refine Decidable.byContradiction fun hc => ?_
      have := p2_le (show blen (M * 18446744073709551616 + Q) ≤ 53 from by omega)
      have e53 : p2 53 = 9007199254740992 := by decide
      omega
    obtain ⟨m, f, er, rb⟩ := round_Round_ev (neg a) us1 us2 (E := E - 64) (by omega) (by omega) (decide (R ≠ 0)) (x := vm (mag a) + vm (mag b)) (by omega)
      (by intro h; have h : R = 0 := by simpa using h
          rw [va, vb, hlow0 h, aM, evs]; push_cast; grind)
      (by intro h; have h : R ≠ 0 := by simpa using h
          refine ⟨?_, by rw [evs]; exact hblen⟩
          obtain ⟨l1, l2⟩ := hlow1 h
          rw [va, vb, aM, evs]
          push_cast at l2 ⊢
          constructor <;> grind)
    refine ⟨(signed (neg a) m, f), start _ (Ev.pos (by simp [hs]) (Ev.call es (Ev.call (word_Neg_eq ha) ?_))), ⟨fun h => absurd h hne, fun _ => ⟨m, by rw [hx]; exact rb, by rw [hsg]⟩⟩⟩
    dsimp only
    exact Ev.bind er (Ev.now _)
  · -- unlike signs
    have hz : (neg a && neg b) = false := by revert hs; cases neg a <;> cases neg b <;> simp
    have hx : rabs (val a + val b) = vm (mag a) - vm (mag b) := by
      have := vm_pos za; have := vm_pos zb
      rw [val_eq a, val_eq b]
      unfold rabs
      revert hs
      cases neg a <;> cases neg b <;> simp <;> grind
    have hsg : val a + val b ≠ 0 → decide (val a + val b < 0) = neg a := by
      have := vm_pos za; have := vm_pos zb
      rw [val_eq a, val_eq b]
      revert hs
      cases neg a <;> cases neg b <;> simp <;> grind
    have tail : ∀ (sh sl : Int), U sh → U sl → ∀ low : Bool, low = decide (R ≠ 0) → wv sh sl = M * 18446744073709551616 - (if R = 0 then Q else Q + 1) → ¬ (wv sh sl = 0 ∧ low = false) →
        ∃ rf : Int × Int, Ev (fun k => soft_Add.j4 k a E low false sh sl) rf ∧ Rd (val a + val b) (neg a && neg b) rf.1 rf.2 := by
      intro sh sl us1 us2 low hl evs hnz
      have hpos : 0 < wv sh sl := by
        have := (wv_range us1 us2).1
        by_cases c : R = 0
        · have hl' : low = false := by rw [hl]; simp [c]
          have : wv sh sl ≠ 0 := fun h => hnz ⟨h, hl'⟩
          omega
        · obtain ⟨b1, b2⟩ := hbig c
          rw [if_neg c] at evs
          omega
      have hblen : R ≠ 0 → 54 ≤ blen (wv sh sl) := by
        intro c
        obtain ⟨b1, b2⟩ := hbig c
        rw [if_neg c] at evs
        obtain ⟨c1, c2, c3⟩ := blen_pos hpos
        refine Decidable.byContradiction fun hc => ?_
        have := p2_le (show blen (wv sh sl) ≤ 53 from by omega)
        have e53 : p2 53 = 9007199254740992 := by decide
        omega
      obtain ⟨m, f, er, rb⟩ := round_Round_ev (neg a) us1 us2 (E := E - 64) (by omega) (by omega) low (x := vm (mag a) - vm (mag b)) hpos
        (by intro h; have h : R = 0 := by rw [hl] at h; simpa using h
            rw [if_pos h] at evs
            rw [va, vb, hlow0 h, aM, evs]; push_cast; grind)
        (by intro h; have h : R ≠ 0 := by rw [hl] at h; simpa using h
            refine ⟨?_, hblen h⟩
            rw [if_neg h] at evs
            obtain ⟨l1, l2⟩ := hlow1 h
            rw [va, vb, aM, evs]
            push_cast at l2 ⊢
            constructor <;> grind)
      have hxne : val a + val b ≠ 0 := by
        intro h
        have h1 : rabs (val a + val b) = 0 := by rw [h]; rfl
        obtain ⟨q, n, hq, _⟩ := rb.ex
        have := hq.pos
        rw [hx] at h1
        grind
      refine ⟨(signed (neg a) m, f), Ev.succ ?_, ⟨fun h => absurd h hxne, fun _ => ⟨m, by rw [hx]; exact rb, by rw [hsg hxne]⟩⟩⟩
      simp only [soft_Add.j4]
      refine Ev.neg (by decide) (Ev.call (word_Neg_eq ha) ?_)
      rw [w64 (x := E - 64) (by omega) (by omega)]
      exact Ev.bind er (Ev.now _)
    -- the lesser one isn't greater
    have hQM : (if R = 0 then Q else Q + 1) ≤ M * 18446744073709551616 := by
      by_cases c : R = 0
      · rw [if_pos c]
        have : (Q : Rat) * pw (E - 64) ≤ (M * 18446744073709551616 : Int) * pw (E - 64) := by rw [← hlow0 c, ← aM, ← va, ← vb]; exact hvle
        exact mul_pw_le.mp this
      · rw [if_neg c]
        have := hbig c
        omega
    have j3 : ∀ (qh' ql' : Int), U qh' → U ql' → wv qh' ql' = (if R = 0 then Q else Q + 1) →
        ∃ rf : Int × Int, Ev (fun k => soft_Add.j3 k a E (decide (R ≠ 0)) M 0 qh' ql') rf ∧ Rd (val a + val b) (neg a && neg b) rf.1 rf.2 := by
      intro qh' ql' u1 u2 e
      obtain ⟨sh, sl, es, us1, us2, evs⟩ := wide_Sub_eq UM U_0 u1 u2 (by rw [wM, e]; exact hQM)
      rw [wM, e] at evs
      by_cases hz0 : wv sh sl = 0
      · by_cases c : R = 0
        · -- nothing is left
          refine ⟨(0, 0), Ev.succ ?_, ⟨fun _ => ⟨by rw [hz]; rfl, rfl⟩, fun h => absurd ?_ h⟩⟩
          · simp only [soft_Add.j3]
            refine Ev.call es (Ev.call (wide_Zero_eq us1 us2) ?_)
            rw [decide_eq_true hz0]
            refine Ev.pos rfl (Ev.succ ?_)
            simp only [soft_Add.j4]
            exact Ev.pos (by simp [c]) (Ev.now _)
          · have h1 : rabs (val a + val b) = 0 := by
              rw [hx, va, vb, hlow0 c, aM]
              rw [if_pos c, hz0] at evs
              have : M * 18446744073709551616 = Q := by omega
              rw [this]; grind
            unfold rabs at h1; grind
        · obtain ⟨rf, ev, rd⟩ := tail sh sl us1 us2 _ rfl evs (by simp [c])
          refine ⟨rf, Ev.succ ?_, rd⟩
          simp only [soft_Add.j3]
          refine Ev.call es (Ev.call (wide_Zero_eq us1 us2) ?_)
          rw [decide_eq_true hz0]
          refine Ev.pos rfl ?_
          rw [show (!decide (R ≠ 0)) = false from by simp [c]]
          exact ev
      · obtain ⟨rf, ev, rd⟩ := tail sh sl us1 us2 _ rfl evs (fun h => hz0 h.1)
        refine ⟨rf, Ev.succ ?_, rd⟩
        simp only [soft_Add.j3]
        refine Ev.call es (Ev.call (wide_Zero_eq us1 us2) ?_)
        rw [decide_eq_false hz0]
        exact Ev.neg (by decide) ev
    by_cases c : R = 0
    · obtain ⟨rf, ev, rd⟩ := j3 qh ql uq1 uq2 (by rw [if_pos c]; exact eq)
      refine ⟨rf, start _ (Ev.neg (by simp [hs]) (Ev.neg (by simp [c]) ev)), rd⟩
    · obtain ⟨ah, al, ea, ua1, ua2, eva⟩ := wide_Add_eq uq1 uq2 U_0 U_1
      have e1 : wv 0 1 = 1 := by unfold wv; omega
      rw [eq, e1, Int.emod_eq_of_lt (by omega) (by omega)] at eva
      obtain ⟨rf, ev, rd⟩ := j3 ah al ua1 ua2 (by rw [if_neg c]; exact eva)
      refine ⟨rf, start _ (Ev.neg (by simp [hs]) (Ev.pos (by simp [c]) (Ev.call ea ?_))), rd⟩
      exact ev

theorem zero_two {a : Int} (ha : U a) (h : mag a = 0) : a = if neg a then 9223372036854775808 else 0 := by
  obtain ⟨h0, h1⟩ := ha
  unfold mag at h
  unfold neg
  by_cases c : 9223372036854775808 ≤ a
  · rw [decide_eq_true c]; simp; omega
  · rw [decide_eq_false c]; simp; omega
/-- ADD: of two numbers. -/
theorem add_fin {a b : Int} (ha : U a) (hb : U b) (fa : fin a) (fb : fin b) : ∃ r f, Ev (fun k => soft_Add.f k a b) (r, f) ∧ Rd (val a + val b) (neg a && neg b) r f := by
  have ka : kindOf (mag a) ≠ 4 := fun h => by have := kind_inf.mp h; unfold fin at fa; omega
  have kb : kindOf (mag b) ≠ 4 := fun h => by have := kind_inf.mp h; unfold fin at fb; omega
  have step : ∀ rf : Int × Int, Ev (fun k => soft_Add.j1 k a b (kindOf (mag a)) (kindOf (mag b)) (if kindOf (mag a) = 1 then (kindOf (mag b) == 1) else false)) rf → Ev (fun k => soft_Add.f k a b) rf := by
    intro rf h
    refine add_kinds ha hb (by rw [fin_nan fa, fin_nan fb]; rfl) ?_
    rw [if_neg ka]
    refine Ev.succ ?_
    simp only [soft_Add.j0]
    refine Ev.neg (by decide) (Ev.neg ka (Ev.neg kb ?_))
    by_cases c : kindOf (mag a) = 1
    · rw [if_pos c] at h; exact Ev.pos c h
    · rw [if_neg c] at h; exact Ev.neg c h
  by_cases za : mag a = 0
  · have k1 := kind_zero.mpr za
    by_cases zb : mag b = 0
    · have k2 := kind_zero.mpr zb
      refine ⟨bits .and .u64 a b, 0, step _ (Ev.succ ?_), ?_⟩
      · simp only [soft_Add.j1]
        exact Ev.pos (by rw [if_pos k1, k2]; rfl) (Ev.now _)
      · have h0 : val a + val b = 0 := by rw [val_zero_iff.mpr za, val_zero_iff.mpr zb]; grind
        refine ⟨fun _ => ⟨?_, rfl⟩, fun h => absurd h0 h⟩
        have e1 := zero_two ha za
        have e2 := zero_two hb zb
        rw [e1, e2]
        cases neg a <;> cases neg b <;> decide
    · have k2 : ¬ kindOf (mag b) = 1 := fun h => zb (kind_zero.mp h)
      refine ⟨b, 0, step _ (Ev.succ ?_), ?_⟩
      · simp only [soft_Add.j1]
        exact Ev.neg (by rw [if_pos k1]; simpa using k2) (Ev.pos k1 (Ev.now _))
      · rw [val_zero_iff.mpr za, show (0 : Rat) + val b = val b from by grind]
        exact Rd.self hb fb zb _
  · have k1 : ¬ kindOf (mag a) = 1 := fun h => za (kind_zero.mp h)
    by_cases zb : mag b = 0
    · have k2 := kind_zero.mpr zb
      refine ⟨a, 0, step _ (Ev.succ ?_), ?_⟩
      · simp only [soft_Add.j1]
        exact Ev.neg (by rw [if_neg k1]; decide) (Ev.neg k1 (Ev.pos k2 (Ev.now _)))
      · rw [val_zero_iff.mpr zb, show val a + (0 : Rat) = val a from by grind]
        exact Rd.self ha fa za _
    · have k2 : ¬ kindOf (mag b) = 1 := fun h => zb (kind_zero.mp h)
      have m0 := (mag_lt (a := a)).1
      have m1 := (mag_lt (a := b)).1
      by_cases hlt : mag a < mag b
      · obtain ⟨r, f, ev, rd⟩ := add_j2 hb ha fb fa (by omega) (by omega) (by omega)
        refine ⟨r, f, step _ (Ev.succ ?_), by rw [show val a + val b = val b + val a from by grind, Bool.and_comm]; exact rd⟩
        simp only [soft_Add.j1]
        exact Ev.neg (by rw [if_neg k1]; decide) (Ev.neg k1 (Ev.neg k2 (Ev.call (word_Abs_eq ha) (Ev.call (word_Abs_eq hb) (Ev.pos hlt ev)))))
      · obtain ⟨r, f, ev, rd⟩ := add_j2 ha hb fa fb (by omega) (by omega) (by omega)
        refine ⟨r, f, step _ (Ev.succ ?_), rd⟩
        simp only [soft_Add.j1]
        exact Ev.neg (by rw [if_neg k1]; decide) (Ev.neg k1 (Ev.neg k2 (Ev.call (word_Abs_eq ha) (Ev.call (word_Abs_eq hb) (Ev.neg hlt ev)))))

def AddR (a b r f : Int) : Prop :=
  if (isNan a || isNan b) = true then r = QNAN ∧ f = nanF a b
  else if mag a = INF then (if mag b = INF ∧ a ≠ b then r = QNAN ∧ f = 16 else r = a ∧ f = 0)
  else if mag b = INF then r = b ∧ f = 0
  else Rd (val a + val b) (neg a && neg b) r f
theorem add_ev {a b : Int} (ha : U a) (hb : U b) : ∃ r f, Ev (fun k => soft_Add.f k a b) (r, f) ∧ AddR a b r f := by
  unfold AddR
  by_cases h : (isNan a || isNan b) = true
  · exact ⟨_, _, add_nan ha hb h, by rw [if_pos h]; exact ⟨rfl, rfl⟩⟩
  · obtain ⟨h0, na, nb⟩ := nan_or h
    by_cases ia : mag a = INF
    · by_cases ib : mag b = INF ∧ a ≠ b
      · exact ⟨_, _, add_inf2 ha hb ia ib.1 ib.2, by rw [if_neg h, if_pos ia, if_pos ib]; exact ⟨rfl, rfl⟩⟩
      · refine ⟨_, _, add_infa ha hb ia nb ?_, by rw [if_neg h, if_pos ia, if_neg ib]; exact ⟨rfl, rfl⟩⟩
        by_cases c : a = b
        · exact .inl c
        · exact .inr (fun hh => ib ⟨hh, c⟩)
    · by_cases ib : mag b = INF
      · exact ⟨_, _, add_infb ha hb (fin_of na ia) ib, by rw [if_neg h, if_neg ia, if_pos ib]; exact ⟨rfl, rfl⟩⟩
      · obtain ⟨r, f, ev, rd⟩ := add_fin ha hb (fin_of na ia) (fin_of nb ib)
        exact ⟨r, f, ev, by rw [if_neg h, if_neg ia, if_neg ib]; exact rd⟩
theorem AddR.unique {a b r f r' f' : Int} (h : AddR a b r f) (h' : AddR a b r' f') : r = r' ∧ f = f' := by
  unfold AddR at h h'
  by_cases c1 : (isNan a || isNan b) = true
  · rw [if_pos c1] at h h'; omega
  · rw [if_neg c1] at h h'
    by_cases c2 : mag a = INF
    · rw [if_pos c2] at h h'
      by_cases c3 : mag b = INF ∧ a ≠ b
      · rw [if_pos c3] at h h'; omega
      · rw [if_neg c3] at h h'; omega
    · rw [if_neg c2] at h h'
      by_cases c3 : mag b = INF
      · rw [if_pos c3] at h h'; omega
      · rw [if_neg c3] at h h'; exact h.unique h'
theorem AddR.fin {a b r f : Int} (fa : fin a) (fb : fin b) : AddR a b r f ↔ Rd (val a + val b) (neg a && neg b) r f := by
  unfold AddR; rw [fin_nan fa, fin_nan fb, if_neg (by decide), if_neg (not_inf fa), if_neg (not_inf fb)]
theorem AddR.flags {a b r f : Int} (h : AddR a b r f) : 0 ≤ f ∧ f ≤ 16 := by
  have := nanF_le a b
  unfold AddR at h
  split at h
  · omega
  · split at h
    · split at h <;> omega
    · split at h
      · omega
      · exact h.flags
theorem AddR.range {a b r f : Int} (ha : U a) (hb : U b) (h : AddR a b r f) : U r := by
  unfold AddR at h
  have q : U QNAN := by unfold QNAN U; decide
  split at h
  · rw [h.1]; exact q
  · split at h
    · split at h
      · rw [h.1]; exact q
      · rw [h.1]; exact ha
    · split at h
      · rw [h.1]; exact hb
      · exact h.range.1
theorem mul_nan {a b : Int} (ha : U a) (hb : U b) (h : (isNan a || isNan b) = true) : Ev (fun k => soft_Mul.f k a b) (QNAN, nanF a b) := by
  unfold soft_Mul.f
  refine Ev.bind (soft_nan2 ha hb) ?_
  exact Ev.pos h (Ev.now _)
/-- Infinity times zero? -/
def infZero (a b : Int) : Bool := (decide (mag a = INF) && decide (mag b = 0)) || (decide (mag a = 0) && decide (mag b = INF))
theorem mul_kinds {a b : Int} (ha : U a) (hb : U b) (h : (isNan a || isNan b) = false) {r : Int × Int}
    (hk : Ev (fun k => soft_Mul.j0 k a b (neg a != neg b) (kindOf (mag a)) (kindOf (mag b)) (infZero a b)) r) : Ev (fun k => soft_Mul.f k a b) r := by
  unfold soft_Mul.f
  refine Ev.bind (soft_nan2 ha hb) (Ev.neg (by simp only [h]; decide) (Ev.call (word_Neg_eq ha) (Ev.call (word_Neg_eq hb) (Ev.bind (word_Kind_ev ha) (Ev.bind (word_Kind_ev hb) ?_)))))
  rw [kind_mag, kind_mag, neg_def, neg_def]
  have kz : ∀ c : Int, (kindOf (mag c) == 4) = decide (mag c = INF) := fun c => by
    rw [Bool.eq_iff_iff]; simp only [beq_iff_eq, decide_eq_true_eq]; exact kind_inf
  have I0 : (INF : Int) ≠ 0 := by decide
  rw [kz]
  by_cases c1 : kindOf (mag a) = 4
  · have m1 := kind_inf.mp c1
    have n1 : ¬ kindOf (mag a) = 1 := by rw [c1]; decide
    by_cases c2 : kindOf (mag b) = 1
    · have m2 := kind_zero.mp c2
      have e : infZero a b = true := by unfold infZero; rw [m1, m2]; decide
      rw [e] at hk
      exact Ev.pos c1 (Ev.pos c2 hk)
    · have m2 : mag b ≠ 0 := fun h => c2 (kind_zero.mpr h)
      have e : infZero a b = false := by unfold infZero; rw [m1]; simp [m2, I0]
      rw [e] at hk
      exact Ev.pos c1 (Ev.neg c2 (Ev.neg n1 hk))
  · have m1 : mag a ≠ INF := fun h => c1 (kind_inf.mpr h)
    by_cases c2 : kindOf (mag a) = 1
    · have m2 := kind_zero.mp c2
      have e : infZero a b = decide (mag b = INF) := by unfold infZero; rw [m2]; simp [Ne.symm I0]
      rw [e] at hk
      exact Ev.neg c1 (Ev.pos c2 hk)
    · have m2 : mag a ≠ 0 := fun h => c2 (kind_zero.mpr h)
      have e : infZero a b = false := by unfold infZero; simp [m1, m2]
      rw [e] at hk
      exact Ev.neg c1 (Ev.neg c2 hk)
theorem mul_infzero {a b : Int} (ha : U a) (hb : U b) (h : infZero a b = true) : Ev (fun k => soft_Mul.f k a b) (QNAN, 16) := by
  refine mul_kinds ha hb ?_ ?_
  · unfold infZero at h
    have h0 : isNan a = false ∧ isNan b = false := by
      unfold isNan INF at *
      simp at h ⊢
      omega
    rw [h0.1, h0.2]; rfl
  · refine Ev.succ ?_
    simp only [soft_Mul.j0]
    exact Ev.pos h (Ev.now _)
theorem mul_inf {a b : Int} (ha : U a) (hb : U b) (h0 : (isNan a || isNan b) = false) (h1 : mag a = INF ∨ mag b = INF) (h2 : infZero a b = false) : Ev (fun k => soft_Mul.f k a b) (signed (neg a != neg b) INF, 0) := by
  refine mul_kinds ha hb h0 (Ev.succ ?_)
  simp only [soft_Mul.j0]
  refine Ev.neg (by rw [h2]; decide) ?_
  by_cases c : kindOf (mag a) = 4
  · refine Ev.pos c (Ev.succ ?_)
    simp only [soft_Mul.j1]
    exact Ev.pos trivial (Ev.call (make_inf _) (Ev.now _))
  · refine Ev.neg c (Ev.succ ?_)
    simp only [soft_Mul.j1]
    exact Ev.pos (beq_iff_eq.mpr (kind_inf.mpr (by rcases h1 with h | h; exact absurd (kind_inf.mpr h) c; exact h))) (Ev.call (make_inf _) (Ev.now _))
/-- MUL: of two numbers. -/
theorem mul_fin {a b : Int} (ha : U a) (hb : U b) (fa : fin a) (fb : fin b) : ∃ r f, Ev (fun k => soft_Mul.f k a b) (r, f) ∧ Rd (val a * val b) (neg a != neg b) r f := by
  have ka : kindOf (mag a) ≠ 4 := fun h => by have := kind_inf.mp h; unfold fin at fa; omega
  have kb : kindOf (mag b) ≠ 4 := fun h => by have := kind_inf.mp h; unfold fin at fb; omega
  have iz : infZero a b = false := by
    have h1 : mag a ≠ INF := fun h => ka (kind_inf.mpr h)
    have h2 : mag b ≠ INF := fun h => kb (kind_inf.mpr h)
    unfold infZero; simp [h1, h2]
  obtain ⟨M, E, pa, m0, m1, e0, e1, va, za⟩ := Parts_fin ha fa
  obtain ⟨N, G, pb, n0, n1, g0, g1, vb, zb⟩ := Parts_fin hb fb
  obtain ⟨h, l, ew, u1, u2, ev⟩ := wide_Mul_eq (a := M) (b := N) ⟨m0, by omega⟩ ⟨n0, by omega⟩
  have hx : rabs (val a * val b) = ((M * N : Int) : Rat) * pw (E + G) := by
    have e : rabs (val a * val b) = vm (mag a) * vm (mag b) := by
      have p1 := vm_nonneg (mag_lt (a := a)).1
      have p2 := vm_nonneg (mag_lt (a := b)).1
      have p3 := Rat.mul_nonneg p1 p2
      rw [val_eq a, val_eq b]
      unfold rabs
      cases neg a <;> cases neg b <;> simp <;> grind
    rw [e, va, vb, pw_add]; push_cast; grind
  have start : ∀ rf : Int × Int, Ev (fun k => round_Round.f k (neg a != neg b) h l (E + G) false) rf → Ev (fun k => soft_Mul.f k a b) rf := by
    intro rf hr
    refine mul_kinds ha hb (by rw [fin_nan fa, fin_nan fb]; rfl) (Ev.succ ?_)
    simp only [soft_Mul.j0]
    refine Ev.neg (by rw [iz]; decide) (Ev.neg ka (Ev.succ ?_))
    simp only [soft_Mul.j1]
    refine Ev.neg (by simpa using kb) (Ev.bind pa (Ev.bind pb (Ev.call ew ?_)))
    dsimp only
    rw [w64 (x := E + G) (by omega) (by omega)]
    exact Ev.bind hr (Ev.now _)
  by_cases z : M * N = 0
  · rw [z] at ev hx
    have hl := wv_inj u1 u2 U_0 U_0 (by rw [ev]; rfl)
    obtain ⟨rfl, rfl⟩ := hl
    refine ⟨_, _, start _ (round_Round_zero _ _), ⟨fun _ => ⟨rfl, rfl⟩, fun hne => absurd ?_ hne⟩⟩
    have : rabs (val a * val b) = 0 := by rw [hx]; grind
    unfold rabs at this; grind
  · have hpos : 0 < M * N := by have := Int.mul_nonneg m0 n0; omega
    obtain ⟨m, f, er, rb⟩ := round_Round_ev (neg a != neg b) u1 u2 (E := E + G) (by omega) (by omega) false (x := rabs (val a * val b)) (by rw [ev]; exact hpos)
      (fun _ => by rw [ev]; exact hx) (fun h => by cases h)
    have hne : val a * val b ≠ 0 := by
      intro h0
      have h1 : rabs (val a * val b) = 0 := by rw [h0]; rfl
      rw [hx] at h1
      have : (0 : Int) * pw (E + G) < ((M * N : Int) : Rat) * pw (E + G) := mul_pw_lt.mpr hpos
      rw [h1] at this
      grind
    refine ⟨_, _, start _ er, ⟨fun h0 => absurd h0 hne, fun _ => ⟨m, rb, ?_⟩⟩⟩
    congr 1
    have p1 : 0 < vm (mag a) := by
      have : mag a ≠ 0 := fun hz => by rw [za.mpr hz] at hpos; omega
      exact vm_pos (by have := (mag_lt (a := a)).1; omega)
    have p2 : 0 < vm (mag b) := by
      have : mag b ≠ 0 := fun hz => by rw [zb.mpr hz] at hpos; omega
      exact vm_pos (by have := (mag_lt (a := b)).1; omega)
    have p3 := Rat.mul_pos p1 p2
    rw [val_eq a, val_eq b]
    cases neg a <;> cases neg b <;> simp <;> grind
def MulR (a b r f : Int) : Prop :=
  if (isNan a || isNan b) = true then r = QNAN ∧ f = nanF a b
  else if infZero a b = true then r = QNAN ∧ f = 16
  else if mag a = INF ∨ mag b = INF then r = signed (neg a != neg b) INF ∧ f = 0
  else Rd (val a * val b) (neg a != neg b) r f
theorem mul_ev {a b : Int} (ha : U a) (hb : U b) : ∃ r f, Ev (fun k => soft_Mul.f k a b) (r, f) ∧ MulR a b r f := by
  unfold MulR
  by_cases h : (isNan a || isNan b) = true
  · exact ⟨_, _, mul_nan ha hb h, by rw [if_pos h]; exact ⟨rfl, rfl⟩⟩
  · obtain ⟨h0, na, nb⟩ := nan_or h
    by_cases iz : infZero a b = true
    · exact ⟨_, _, mul_infzero ha hb iz, by rw [if_neg h, if_pos iz]; exact ⟨rfl, rfl⟩⟩
    · by_cases i : mag a = INF ∨ mag b = INF
      · exact ⟨_, _, mul_inf ha hb h0 i (by simpa using iz), by rw [if_neg h, if_neg iz, if_pos i]; exact ⟨rfl, rfl⟩⟩
      · obtain ⟨r, f, ev, rd⟩ := mul_fin ha hb (fin_of na (fun h => i (.inl h))) (fin_of nb (fun h => i (.inr h)))
        exact ⟨r, f, ev, by rw [if_neg h, if_neg iz, if_neg i]; exact rd⟩
theorem MulR.unique {a b r f r' f' : Int} (h : MulR a b r f) (h' : MulR a b r' f') : r = r' ∧ f = f' := by
  unfold MulR at h h'
  by_cases c1 : (isNan a || isNan b) = true
  · rw [if_pos c1] at h h'; omega
  · rw [if_neg c1] at h h'
    by_cases c2 : infZero a b = true
    · rw [if_pos c2] at h h'; omega
    · rw [if_neg c2] at h h'
      by_cases c3 : mag a = INF ∨ mag b = INF
      · rw [if_pos c3] at h h'; omega
      · rw [if_neg c3] at h h'; exact h.unique h'
theorem MulR.fin {a b r f : Int} (fa : fin a) (fb : fin b) : MulR a b r f ↔ Rd (val a * val b) (neg a != neg b) r f := by
  have : infZero a b = false := by unfold infZero; simp [not_inf fa, not_inf fb]
  unfold MulR; rw [fin_nan fa, fin_nan fb, this, if_neg (by decide), if_neg (by decide), if_neg (by rintro (h | h); exact not_inf fa h; exact not_inf fb h)]
theorem MulR.flags {a b r f : Int} (h : MulR a b r f) : 0 ≤ f ∧ f ≤ 16 := by
  have := nanF_le a b
  unfold MulR at h
  split at h
  · omega
  · split at h
    · omega
    · split at h
      · omega
      · exact h.flags
theorem MulR.range {a b r f : Int} (h : MulR a b r f) : U r := by
  unfold MulR at h
  have q : U QNAN := by unfold QNAN U; decide
  split at h
  · rw [h.1]; exact q
  · split at h
    · rw [h.1]; exact q
    · split at h
      · rw [h.1]; exact U_signed INF_lt.1 INF_lt.2
      · exact h.range.1

theorem repr_exists {D G : Int} (hD : 0 < D) (hD' : D ≤ 9007199254740992) (hG : -1074 ≤ G) : ∃ m, 0 < m ∧ vm m = (D : Rat) * pw G := by
  by_cases hb : D = 9007199254740992
  · subst hb
    refine ⟨enc G 9007199254740992, by unfold enc; omega, ?_⟩
    rw [vm_enc hG (by decide) (by decide) (.inr (by decide))]
  · obtain ⟨b1, b2, b3⟩ := blen_pos hD
    have hL : blen D ≤ 53 := blen_le (by decide) (by rw [show p2 53 = 9007199254740992 from by decide]; omega)
    obtain ⟨s, hs0, hs1, hs2, hs3⟩ : ∃ s, 0 ≤ s ∧ s ≤ 53 - blen D ∧ s ≤ G + 1074 ∧ (s = 53 - blen D ∨ s = G + 1074) := by
      by_cases c : 53 - blen D ≤ G + 1074
      · exact ⟨53 - blen D, by omega, by omega, by omega, .inl rfl⟩
      · exact ⟨G + 1074, by omega, by omega, by omega, .inr rfl⟩
    have hP := p2_pos s
    have h1 : D * p2 s < 9007199254740992 := by
      have e53 : (9007199254740992 : Int) = p2 (blen D) * p2 (53 - blen D) := by rw [← p2_add (by omega) (by omega), show blen D + (53 - blen D) = 53 from by omega]; decide
      have h1 : D * p2 s < p2 (blen D) * p2 s := Int.mul_lt_mul_of_pos_right b3 hP
      have h2 : p2 (blen D) * p2 s ≤ p2 (blen D) * p2 (53 - blen D) := Int.mul_le_mul_of_nonneg_left (p2_le hs1) (Int.le_of_lt (p2_pos _))
      omega
    have h0 : 0 < D * p2 s := Int.mul_pos hD hP
    refine ⟨enc (G - s) (D * p2 s), by unfold enc; omega, ?_⟩
    rw [vm_enc (by omega) (by omega) (by omega) ?_]
    · have : pw G = (p2 s : Rat) * pw (G - s) := by rw [← pw_p2 hs0, ← pw_add]; congr 1; omega
      rw [this]; push_cast; grind
    · rcases hs3 with h | h
      · refine .inr ?_
        have e52 : (4503599627370496 : Int) = p2 (blen D - 1) * p2 s := by rw [← p2_add (by omega) (by omega), show blen D - 1 + s = 52 from by omega]; decide
        rw [e52]
        exact Int.mul_le_mul_of_nonneg_right b2 (Int.le_of_lt hP)
      · exact .inl (by omega)

theorem word_Finite_eq {a : Int} (h : U a) : word_Finite.f a = some (decide (fin a)) := by
  unfold word_Finite.f
  rw [word_Exp_eq h]
  simp only [Option.bind_some]
  congr 1
  apply decide_eq_decide.mpr
  obtain ⟨h0, h1⟩ := h
  unfold fin mag INF
  constructor <;> intro h <;> omega
theorem U_of_wf {a : Int} (h : (Lit.int .u64 a).wf = true) : U a := by
  simp [Lit.wf, IntKind.min, IntKind.max, IntKind.signed, IntKind.bits] at h
  unfold U; omega
end Gim
namespace Gim
open Go Go.RowKit Go.Proofs.YtdmhepgfmickdaaDoorW.PrintWords Go.Proofs.YtdmhepgfmickdaaDoorW.PrintLast Go.Proofs.YtdmhepgfmickdaaDoorW.PrintMore
set_option linter.unusedVariables false

/-- What is answered from some number of rounds on, if anything is. -/
noncomputable def resOf {α : Type} [Inhabited α] (g : Nat → Option α) : α := open Classical in if h : ∃ r, Ev g r then Classical.choose h else default
theorem Ev.resE {α : Type} [Inhabited α] {g : Nat → Option α} {r : α} (h : Ev g r) : Ev g (resOf g) := by
  unfold resOf
  rw [dif_pos ⟨r, h⟩]
  exact Classical.choose_spec (p := fun r => Ev g r) ⟨r, h⟩
end Gim
namespace Gim
open Go Go.RowKit Go.Proofs.YtdmhepgfmickdaaDoorW.PrintWords Go.Proofs.YtdmhepgfmickdaaDoorW.PrintLast Go.Proofs.YtdmhepgfmickdaaDoorW.PrintMore Go.Proofs.YtdmhepgfmickdaaDoor.F
set_option linter.unusedVariables false

/-- Flags as they are remembered: eight bits. -/
def F8 (f : Int) : Prop := 0 ≤ f ∧ f < 256
def B8 (f : Int) : BitVec 8 := BitVec.ofInt 8 f
theorem F8_0 : F8 0 := ⟨by decide, by decide⟩
theorem or8_eq (x y : Int) : Go.bits .or .u8 x y = ((B8 x ||| B8 y).toNat : Int) := by
  have e : Go.bits .or .u8 x y = IntKind.u8.wrap ((BitVec.ofInt 8 x ||| BitVec.ofInt 8 y).toNat : Int) := rfl
  rw [e]
  unfold B8
  generalize (BitVec.ofInt 8 x ||| BitVec.ofInt 8 y) = v
  have := v.isLt
  simp [IntKind.wrap, IntKind.bits, IntKind.signed]
  omega
theorem F8_or (x y : Int) : F8 (Go.bits .or .u8 x y) := by
  rw [or8_eq]
  have := (B8 x ||| B8 y).isLt
  exact ⟨by omega, by omega⟩
theorem B8_or (x y : Int) : B8 (Go.bits .or .u8 x y) = B8 x ||| B8 y := by
  rw [or8_eq]
  show BitVec.ofInt 8 ((B8 x ||| B8 y).toNat : Int) = _
  rw [BitVec.ofInt_natCast, BitVec.ofNat_toNat, BitVec.setWidth_eq]
noncomputable def aP (a b : Int) : Int × Int := resOf (fun k => soft_Add.f k a b)
noncomputable def mP (a b : Int) : Int × Int := resOf (fun k => soft_Mul.f k a b)
noncomputable def av (a b : Int) : Int := (aP a b).1
noncomputable def af (a b : Int) : BitVec 8 := B8 (aP a b).2
noncomputable def mv (a b : Int) : Int := (mP a b).1
noncomputable def mf (a b : Int) : BitVec 8 := B8 (mP a b).2
theorem aP_ev {a b : Int} (ha : U a) (hb : U b) : Ev (fun k => soft_Add.f k a b) (aP a b) := by
  obtain ⟨r, f, ev, R⟩ := add_ev ha hb
  exact Ev.resE ev
theorem aP_R {a b : Int} (ha : U a) (hb : U b) : AddR a b (aP a b).1 (aP a b).2 := by
  obtain ⟨r, f, ev, R⟩ := add_ev ha hb
  rw [Ev.det (aP_ev ha hb) ev]
  exact R
theorem mP_ev {a b : Int} (ha : U a) (hb : U b) : Ev (fun k => soft_Mul.f k a b) (mP a b) := by
  obtain ⟨r, f, ev, R⟩ := mul_ev ha hb
  exact Ev.resE ev
theorem mP_R {a b : Int} (ha : U a) (hb : U b) : MulR a b (mP a b).1 (mP a b).2 := by
  obtain ⟨r, f, ev, R⟩ := mul_ev ha hb
  rw [Ev.det (mP_ev ha hb) ev]
  exact R
theorem av_U {a b : Int} (ha : U a) (hb : U b) : U (av a b) := (aP_R ha hb).range ha hb
theorem mv_U {a b : Int} (ha : U a) (hb : U b) : U (mv a b) := (mP_R ha hb).range
theorem rd_U {l : List Int} (h : ∀ x ∈ l, U x) (i : Nat) : U (rd l (i : Int)) := by
  unfold rd
  rw [Int.toNat_natCast, List.getD_eq_getElem?_getD]
  by_cases c : i < l.length
  · rw [List.getElem?_eq_getElem c]; exact h _ (List.getElem_mem c)
  · rw [List.getElem?_eq_none (by omega)]; exact ⟨by decide, by decide⟩

noncomputable def dS (x y : Nat → Int) : Nat → Int
  | 0 => 0
  | n + 1 => av (dS x y n) (mv (x n) (y n))
noncomputable def dF (x y : Nat → Int) (i : Nat) : BitVec 8 := mf (x i) (y i) ||| af (dS x y i) (mv (x i) (y i))
theorem dS_U {x y : Nat → Int} (hx : ∀ i, U (x i)) (hy : ∀ i, U (y i)) : ∀ n, U (dS x y n)
  | 0 => show U 0 from ⟨by decide, by decide⟩
  | n + 1 => av_U (dS_U hx hy n) (mv_U (hx n) (hy n))

theorem keep {a : Int} (ha : U a) (fa : fin a) {x : Rat} {z : Bool} {r f : Int} (h : Rd x z r f) (hx : x = val a) (hz : mag a = 0 → z = neg a) : r = a ∧ f = 0 := by
  by_cases h0 : mag a = 0
  · have hx0 : x = 0 := by rw [hx]; exact val_zero_iff.mpr h0
    obtain ⟨e, hf⟩ := h.zero hx0
    refine ⟨?_, hf⟩
    rw [e, hz h0]
    have := signed_eta ha
    rw [h0] at this
    exact this
  · subst hx
    have := h.unique (Rd.self ha fa h0 z)
    exact this
theorem mulRd {a b r f : Int} (fa : fin a) (fb : fin b) (h : MulR a b r f) : Rd (val a * val b) (neg a != neg b) r f := by
  unfold MulR at h
  have n1 := not_inf fa
  have n2 := not_inf fb
  have hz : infZero a b = false := by unfold infZero; simp [n1, n2]
  rw [if_neg (by rw [fin_nan fa, fin_nan fb]; decide), if_neg (by rw [hz]; decide), if_neg (by rintro (h | h) <;> contradiction)] at h
  exact h
theorem addRd {a b r f : Int} (fa : fin a) (fb : fin b) (h : AddR a b r f) : Rd (val a + val b) (neg a && neg b) r f := (AddR.fin fa fb).mp h
theorem mv_Rd {a b : Int} (ha : U a) (hb : U b) (fa : fin a) (fb : fin b) : Rd (val a * val b) (neg a != neg b) (mv a b) (mP a b).2 := mulRd fa fb (mP_R ha hb)
theorem av_Rd {a b : Int} (ha : U a) (hb : U b) (fa : fin a) (fb : fin b) : Rd (val a + val b) (neg a && neg b) (av a b) (aP a b).2 := addRd fa fb (aP_R ha hb)
theorem fin_zero : fin 0 := by decide
theorem val_zero : val 0 = 0 := val_zero_iff.mpr (by decide)

/-- A sum of rational numbers. -/
def sm (g : Nat → Rat) : Nat → Rat
  | 0 => 0
  | n + 1 => sm g n + g n
theorem sm_nonneg {g : Nat → Rat} (h : ∀ k, 0 ≤ g k) : ∀ n, 0 ≤ sm g n
  | 0 => by simp [sm]
  | n + 1 => by
    have := sm_nonneg h n
    have := h n
    simp only [sm]
    grind
section
variable {x y : Nat → Int} (hx : ∀ i, U (x i)) (hy : ∀ i, U (y i))
include hx hy
end

theorem RB.huge {x : Rat} {b f : Int} (h : RB x b f) (hx : pw 1024 ≤ x) : b = INF ∧ f = 5 := by
  obtain ⟨q, n, hr, rfl, rfl⟩ := h.ex
  have e53 : ((9007199254740992 : Int) : Rat) = pw 53 := by rw [pw_p2 (by decide)]; rfl
  have h1 : pw 1024 < pw (53 + q) := by rw [pw_add, ← e53]; exact Std.lt_of_le_of_lt hx hr.hi
  have hq : 972 ≤ q := by
    refine Decidable.byContradiction fun hc => ?_
    have := pw_mono (show 53 + q ≤ 1024 by omega)
    grind
  have hn : 4503599627370496 ≤ n := by rcases hr.n_ge' with h | h <;> omega
  have e : ¬ enc q n < INF := by unfold enc INF; omega
  rw [if_neg e, if_neg e]; exact ⟨rfl, rfl⟩
theorem RB.small {x : Rat} {b f : Int} (h : RB x b f) (hx : x < pw (-1075)) : b = 0 ∧ f = 3 := by
  obtain ⟨q, n, hr, rfl, rfl⟩ := h.ex
  have e52 : ((4503599627370496 : Int) : Rat) = pw 52 := by rw [pw_p2 (by decide)]; rfl
  have hq : q = -1074 := by
    rcases hr.lo with h | h
    · exact h
    · rw [e52, ← pw_add] at h
      have h2 : pw (52 + q) < pw (-1075) := Std.lt_of_le_of_lt h hx
      have h3 := hr.hq
      have := pw_mono (show -1075 ≤ 52 + q by omega)
      grind
  subst hq
  have h1 := hr.near2
  have e2 := pw_pred (-1074)
  have hn : n ≤ 0 := by
    refine Decidable.byContradiction fun hc => ?_
    have h3 : ((1 : Int) : Rat) * pw (-1074) ≤ ((2 * n - 1 : Int) : Rat) * pw (-1074) := mul_pw_le.mpr (by omega)
    rw [show (-1074 : Int) - 1 = -1075 from by decide] at e2
    have e3 : ((1 : Int) : Rat) * pw (-1074) = pw (-1074) := by simp
    grind
  have hn0 := hr.n_nonneg
  obtain rfl : n = 0 := by omega
  have e : enc (-1074) 0 < INF := by decide
  have hp := hr.pos
  have hm := pw_mono (show (-1075 : Int) ≤ -1022 by decide)
  rw [if_pos e, if_pos e, if_neg (by simp; grind), if_pos (by grind)]
  exact ⟨rfl, rfl⟩

def ScaleR (a c r f : Int) : Prop :=
  if isNan a = true then r = QNAN ∧ f = (if signals a then 16 else 0)
  else if mag a = INF ∨ mag a = 0 then r = a ∧ f = 0
  else Rd (val a * pw c) (neg a) r f
theorem val_scale (a c : Int) : val a * pw c = (sgd (neg a) (mant (mag a)) : Rat) * pw (expo (mag a) + c) := by
  rw [val_mant, pw_add]; grind
theorem sgd_neg (s : Bool) {X : Int} (hX : 0 < X) : sgd s X < 0 ↔ s = true := by unfold sgd; cases s <;> simp <;> omega
theorem sgd_zero (s : Bool) {X : Int} : sgd s X = 0 ↔ X = 0 := by unfold sgd; cases s <;> simp
/-- A rounded magnitude, with its sign. -/
theorem Rd.of_sgd (s : Bool) {X E m f : Int} (hX : 0 < X) (z : Bool) (h : RB ((X : Rat) * pw E) m f) : Rd ((sgd s X : Rat) * pw E) z (signed s m) f := by
  refine ⟨fun h0 => ?_, fun _ => ⟨m, by rw [rabs_sgd s (by omega)]; exact h, ?_⟩⟩
  · have := (sgd_zero s).mp (int_pw_zero.mp h0); omega
  · congr 1
    rw [Bool.eq_iff_iff, decide_eq_true_eq, int_pw_neg, sgd_neg s hX]
theorem ScaleR.unique {a c c' r f r' f' : Int} (h : ScaleR a c r f) (h' : ScaleR a c' r' f') (hc : c = c' ∨ (5000 ≤ c ∧ 5000 ≤ c') ∨ (c ≤ -5000 ∧ c' ≤ -5000)) : r = r' ∧ f = f' := by
  unfold ScaleR at h h'
  by_cases c1 : isNan a = true
  · rw [if_pos c1] at h h'; omega
  · rw [if_neg c1] at h h'
    by_cases c2 : mag a = INF ∨ mag a = 0
    · rw [if_pos c2] at h h'; omega
    · rw [if_neg c2] at h h'
      rcases hc with hc | hc
      · subst hc; exact h.unique h'
      · have fa : fin a := fin_of (by simpa using c1) (fun hh => c2 (.inl hh))
        obtain ⟨e1, e2⟩ := fin_expo fa
        have m0 := mant_pos (m := mag a) (by have := (mag_lt (a := a)).1; omega)
        have m1 := mant_lt (m := mag a)
        have e53 : ((9007199254740992 : Int) : Rat) = pw 53 := by rw [pw_p2 (by decide)]; rfl
        have key : ∀ c r f, Rd (val a * pw c) (neg a) r f → ∃ m, r = signed (neg a) m ∧ RB ((mant (mag a) : Rat) * pw (expo (mag a) + c)) m f := by
          intro c r f h
          rw [val_scale] at h
          obtain ⟨m, rb, e⟩ := h.num (fun h0 => by have := (sgd_zero _).mp (int_pw_zero.mp h0); omega)
          rw [rabs_sgd _ (by omega)] at rb
          refine ⟨m, ?_, rb⟩
          rw [e]; congr 1
          rw [Bool.eq_iff_iff, decide_eq_true_eq, int_pw_neg, sgd_neg _ m0]
        have big : ∀ c m f, 5000 ≤ c → RB ((mant (mag a) : Rat) * pw (expo (mag a) + c)) m f → m = INF ∧ f = 5 := by
          intro c m f hc rb
          refine rb.huge ?_
          have h1 : ((1 : Int) : Rat) * pw (expo (mag a) + c) ≤ (mant (mag a) : Rat) * pw (expo (mag a) + c) := mul_pw_le.mpr (by omega)
          have h2 := pw_mono (show (1024 : Int) ≤ expo (mag a) + c by omega)
          have e3 : ((1 : Int) : Rat) * pw (expo (mag a) + c) = pw (expo (mag a) + c) := by simp
          grind
        have low : ∀ c m f, c ≤ -5000 → RB ((mant (mag a) : Rat) * pw (expo (mag a) + c)) m f → m = 0 ∧ f = 3 := by
          intro c m f hc rb
          refine rb.small ?_
          have h1 : (mant (mag a) : Rat) * pw (expo (mag a) + c) < ((9007199254740992 : Int) : Rat) * pw (expo (mag a) + c) := mul_pw_lt.mpr m1
          rw [e53, ← pw_add] at h1
          exact Std.lt_of_lt_of_le h1 (pw_mono (by omega))
        obtain ⟨m, rfl, rb⟩ := key c r f h
        obtain ⟨m', rfl, rb'⟩ := key c' r' f' h'
        rcases hc with ⟨h1, h2⟩ | ⟨h1, h2⟩
        · obtain ⟨rfl, rfl⟩ := big c m f h1 rb
          obtain ⟨rfl, rfl⟩ := big c' m' f' h2 rb'
          exact ⟨rfl, rfl⟩
        · obtain ⟨rfl, rfl⟩ := low c m f h1 rb
          obtain ⟨rfl, rfl⟩ := low c' m' f' h2 rb'
          exact ⟨rfl, rfl⟩
theorem ScaleR.flags {a c r f : Int} (h : ScaleR a c r f) : 0 ≤ f ∧ f ≤ 16 := by
  unfold ScaleR at h
  split at h
  · split at h <;> omega
  · split at h
    · omega
    · exact h.flags
theorem ScaleR.range {a c r f : Int} (ha : U a) (h : ScaleR a c r f) : U r := by
  unfold ScaleR at h
  split at h
  · rw [h.1]; exact ⟨by decide, by decide⟩
  · split at h
    · rw [h.1]; exact ha
    · exact h.range.1
/-- THE PROGRAM's PRODUCT WITH A POWER OF TWO. -/
theorem more_Scale_ev {a : Int} (ha : U a) (n : Int) : ∃ r f, Ev (fun k => more_Scale.f k a n) (r, f) ∧ ScaleR a (mx (-10000) (mn n 10000)) r f := by
  unfold ScaleR
  have hk := word_Kind_ev ha
  rw [kind_mag] at hk
  by_cases h : isNan a = true
  · refine ⟨QNAN, _, ?_, by rw [if_pos h]; exact ⟨rfl, rfl⟩⟩
    unfold more_Scale.f
    refine Ev.bind hk (Ev.pos (kind_nan.mpr h) (Ev.bind (word_Signals_ev ha) ?_))
    cases hs : signals a
    · exact Ev.neg (by decide) (Ev.now _)
    · exact Ev.pos rfl (Ev.now _)
  · have n5 : ¬ kindOf (mag a) = 5 := fun hh => h (kind_nan.mp hh)
    have start : ∀ r : Int × Int, Ev (fun k => more_Scale.j0 k a n (decide (mag a = INF ∨ mag a = 0))) r → Ev (fun k => more_Scale.f k a n) r := by
      intro r hr
      unfold more_Scale.f
      refine Ev.bind hk (Ev.neg n5 ?_)
      by_cases i : mag a = INF
      · have k4 := kind_inf.mpr i
        rw [decide_eq_true (.inl i)] at hr
        refine Ev.pos k4 ?_
        first | exact hr | (rw [k4]; exact hr)
      · refine Ev.neg (fun hh => i (kind_inf.mp hh)) ?_
        have e : decide (mag a = INF ∨ mag a = 0) = (kindOf (mag a) == 1) := by
          rw [Bool.eq_iff_iff]; simp [i, kind_zero]
        rw [e] at hr
        exact hr
    by_cases c : mag a = INF ∨ mag a = 0
    · refine ⟨a, 0, start _ (Ev.succ ?_), by rw [if_neg h, if_pos c]; exact ⟨rfl, rfl⟩⟩
      simp only [more_Scale.j0]
      exact Ev.pos (decide_eq_true c) (Ev.now _)
    · rw [decide_eq_false c] at start
      have fa : fin a := fin_of (by simpa using h) (fun hh => c (.inl hh))
      have m0' : 0 < mag a := by have := (mag_lt (a := a)).1; omega
      have pa := word_Parts_ev ha m0' fa
      obtain ⟨e1, e2⟩ := fin_expo fa
      have m0 := mant_pos m0'
      have uM := mant_U a
      have emag : a % 9223372036854775808 = mag a := rfl
      rw [emag] at pa
      have hc : -10000 ≤ mx (-10000) (mn n 10000) ∧ mx (-10000) (mn n 10000) ≤ 10000 := by unfold mx mn; split <;> split <;> omega
      have eW : wv 0 (mant (mag a)) = mant (mag a) := by unfold wv; omega
      generalize hd : mx (-10000) (mn n 10000) = d at *
      obtain ⟨m, f, ev, rb⟩ := round_Round_ev (neg a) (h := 0) (l := mant (mag a)) (E := expo (mag a) + d) U_0 uM (by omega) (by omega) false (x := (mant (mag a) : Rat) * pw (expo (mag a) + d)) (by rw [eW]; exact m0) (fun _ => by rw [eW]) (fun h => by cases h)
      refine ⟨signed (neg a) m, f, start _ (Ev.succ ?_), ?_⟩
      · simp only [more_Scale.j0]
        refine Ev.neg (by decide) (Ev.bind pa (Ev.call (word_Neg_eq ha) ?_))
        rw [hd, neg_def]
        dsimp only
        rw [w64 (x := expo (mag a) + d) (by omega) (by omega)]
        exact Ev.bind ev (Ev.now _)
      · rw [if_neg h, if_neg c, val_scale]
        exact Rd.of_sgd _ m0 _ rb

theorem rd_at {l : List Int} {i : Nat} (h : i < l.length) : rd l (i : Int) = l[i] := by
  unfold rd; simp [List.getD_eq_getElem?_getD, h]
/-- A pattern times a power of two, as the program's layer 5 tells. -/
noncomputable def sc (n x : Int) : Int × Int := resOf (fun k => more_Scale.f k x n)
theorem sc_ev {n x : Int} (hx : U x) : Ev (fun k => more_Scale.f k x n) (sc n x) := by
  obtain ⟨r, f, ev, _⟩ := more_Scale_ev hx n
  exact Ev.resE ev
theorem sc_U {n x : Int} (hx : U x) : U (sc n x).1 := by
  obtain ⟨r, f, ev, R⟩ := more_Scale_ev hx n
  rw [Ev.det (sc_ev hx) ev]
  exact R.range hx
theorem unit_l0 {l : List Int} (hl : ∀ x ∈ l, U x) (hn : l.length ≤ 1000000) {e : Int} (e0 : -20000 ≤ e) (e1 : e ≤ 20000) : ∀ t i : Nat, l.length - i = t → i ≤ l.length →
    Ev (fun K => vec_Unit.l0 K e ((l.take i).map (fun x => (sc (-e) x).1)) l l.length i) (l.map (fun x => (sc (-e) x).1)) := by
  intro t
  induction t with
  | zero =>
    intro i h1 h2
    obtain rfl : i = l.length := by omega
    refine Ev.succ ?_
    simp only [vec_Unit.l0]
    rw [List.take_length]
    exact Ev.neg (by omega) (Ev.now _)
  | succ t ih =>
    intro i h1 h2
    have hi : i < l.length := by omega
    have hu := hl _ (List.getElem_mem hi)
    have h := ih (i + 1) (by omega) (by omega)
    rw [List.take_succ_eq_append_getElem hi, List.map_append] at h
    refine Ev.succ ?_
    simp only [vec_Unit.l0]
    rw [rd_at hi, w64 (x := -e) (by omega) (by omega), w64 (x := (i : Int) + 1) (by omega) (by omega)]
    have p1 : ((l.take i).map (fun x => (sc (-e) x).1)).length < 17592186044416 := by
      rw [List.length_map, List.length_take]
      exact Nat.lt_of_le_of_lt (Nat.min_le_right _ _) (Nat.lt_of_le_of_lt hn (by decide))
    exact Ev.pos (by omega) (Ev.pos (by omega) (Ev.pos (by omega) (Ev.bind (sc_ev hu) (Ev.pos p1 h))))
theorem unit_ev {l : List Int} (hl : ∀ x ∈ l, U x) (hn : l.length ≤ 1000000) {e : Int} (e0 : -20000 ≤ e) (e1 : e ≤ 20000) : Ev (fun K => vec_Unit.f K l e) (l.map (fun x => (sc (-e) x).1)) := by
  unfold vec_Unit.f
  have : mx (-20000) (mn e 20000) = e := by unfold mx mn; grind
  rw [this]
  exact unit_l0 hl hn e0 e1 l.length 0 (by omega) (by omega)

theorem greatest_f0 {l : List Int} (hl : ∀ x ∈ l, U x ∧ fin x) (hn : l.length ≤ 1000000) : ∀ t i : Nat, l.length - i = t → i ≤ l.length → ∀ m j : Int, 0 ≤ m → m < INF → (j < 0 → m = 0) →
    ∃ m' j', Ev (fun K => order_Greatest.l0 K m j l l.length i) (m', j') ∧ m ≤ m' ∧ m' < INF ∧ (∀ k (h : k < l.length), i ≤ k → mag l[k] ≤ m') ∧ (m' = m ∨ ∃ x ∈ l, mag x = m') := by
  intro t
  induction t with
  | zero =>
    intro i h1 h2 m j m0 m1 hj
    refine ⟨m, j, Ev.succ ?_, Int.le_refl _, m1, fun k h hk => by omega, .inl rfl⟩
    simp only [order_Greatest.l0]
    exact Ev.neg (by omega) (Ev.now _)
  | succ t ih =>
    intro i h1 h2 m j m0 m1 hj
    have hi : i < l.length := by omega
    obtain ⟨hu, hf⟩ := hl _ (List.getElem_mem hi)
    have hm := mag_lt (a := l[i])
    have hk := word_Kind_ev hu
    have ha := word_Abs_eq hu
    have e0 : l[i] % 9223372036854775808 = mag l[i] := rfl
    rw [e0] at hk ha
    have k5 : ¬ kindOf (mag l[i]) = 5 := fun h => by have := (kind5 hm.1).mp h; unfold fin INF at hf; omega
    have go : ∀ m2 j2 : Int, 0 ≤ m2 → m2 < INF → (j2 < 0 → m2 = 0) → m ≤ m2 → mag l[i] ≤ m2 → (m2 = m ∨ m2 = mag l[i]) →
        (∀ r, Ev (fun K => order_Greatest.l0 K m2 j2 l l.length ((i : Int) + 1)) r → Ev (fun K => order_Greatest.l0 K m j l l.length i) r) →
        ∃ m' j', Ev (fun K => order_Greatest.l0 K m j l l.length i) (m', j') ∧ m ≤ m' ∧ m' < INF ∧ (∀ k (h : k < l.length), i ≤ k → mag l[k] ≤ m') ∧ (m' = m ∨ ∃ x ∈ l, mag x = m') := by
      intro m2 j2 a1 a2 a3 a4 a5 a6 step
      obtain ⟨m', j', ev, b1, b2, b3, b4⟩ := ih (i + 1) (by omega) (by omega) m2 j2 a1 a2 a3
      refine ⟨m', j', step _ ev, by omega, b2, fun k h hk => ?_, ?_⟩
      · by_cases c : k = i
        · subst c; omega
        · exact b3 k h (by omega)
      · rcases b4 with b4 | b4
        · rcases a6 with a6 | a6
          · exact .inl (by omega)
          · exact .inr ⟨_, List.getElem_mem hi, by omega⟩
        · exact .inr b4
    by_cases c1 : j < 0
    · have := hj c1
      refine go (mag l[i]) i hm.1 hf (by omega) (by omega) (Int.le_refl _) (.inr rfl) fun r ev => ?_
      refine Ev.succ ?_
      simp only [order_Greatest.l0]
      rw [rd_at hi, w64 (x := (i : Int) + 1) (by omega) (by omega)]
      exact Ev.pos (by omega) (Ev.pos (by omega) (Ev.pos (by omega) (Ev.bind hk (Ev.neg k5 (Ev.pos c1 (Ev.call ha ev))))))
    · by_cases c2 : mag l[i] > m
      · refine go (mag l[i]) i hm.1 hf (by omega) (by omega) (Int.le_refl _) (.inr rfl) fun r ev => ?_
        refine Ev.succ ?_
        simp only [order_Greatest.l0]
        rw [rd_at hi, w64 (x := (i : Int) + 1) (by omega) (by omega)]
        exact Ev.pos (by omega) (Ev.pos (by omega) (Ev.pos (by omega) (Ev.bind hk (Ev.neg k5 (Ev.neg c1 (Ev.call ha (Ev.pos c2 (Ev.call ha ev))))))))
      · refine go m j m0 m1 hj (Int.le_refl _) (by omega) (.inl rfl) fun r ev => ?_
        refine Ev.succ ?_
        simp only [order_Greatest.l0]
        rw [rd_at hi, w64 (x := (i : Int) + 1) (by omega) (by omega)]
        exact Ev.pos (by omega) (Ev.pos (by omega) (Ev.pos (by omega) (Ev.bind hk (Ev.neg k5 (Ev.neg c1 (Ev.call ha (Ev.neg c2 ev)))))))
/-- The greatest of numbers. -/
theorem greatest_fin {l : List Int} (hl : ∀ x ∈ l, U x ∧ fin x) (hn : l.length ≤ 1000000) : ∃ m j, Ev (fun K => order_Greatest.f K l) (m, j) ∧ 0 ≤ m ∧ m < INF ∧ (∀ x ∈ l, mag x ≤ m) ∧ (m = 0 ∨ ∃ x ∈ l, mag x = m) := by
  obtain ⟨m, j, ev, a1, a2, a3, a4⟩ := greatest_f0 hl hn l.length 0 (by omega) (by omega) 0 (-1) (by decide) (by decide) (fun _ => rfl)
  refine ⟨m, j, ev, a1, a2, fun x hx => ?_, ?_⟩
  · obtain ⟨k, h, rfl⟩ := List.getElem_of_mem hx
    exact a3 k h (by omega)
  · rcases a4 with h | h
    · exact .inl h
    · exact .inr h
theorem power_f0 {v : Rat} : ∀ t : Nat, ∀ n e : Int, n.toNat ≤ t → 0 < n → n < 9007199254740992 → -2000 ≤ e → e + blen n ≤ 2000 → (n : Rat) * pw e ≤ v → v < ((n + 1 : Int) : Rat) * pw e →
    ∃ e', Ev (fun K => vec_Power.l0 K n e) (e', true) ∧ -2000 ≤ e' ∧ e' ≤ 2000 ∧ pw e' ≤ v ∧ v < pw (e' + 1) := by
  intro t
  induction t with
  | zero => intro n e h1 h2; omega
  | succ t ih =>
    intro n e h1 h2 h3 h4 h5 h6 h7
    have b1 := blen_pos h2
    by_cases c : n > 1
    · have hb := blen_shift (x := n) (s := 1) (by decide) (by rw [p2_1]; omega)
      rw [p2_1] at hb
      have hp := pw_pos e
      have hs := pw_succ e
      have k1 : (n / 2 : Int) * pw (e + 1) ≤ v := by
        have : ((2 * (n / 2) : Int) : Rat) * pw e ≤ (n : Rat) * pw e := mul_pw_le.mpr (by omega)
        rw [hs]; push_cast at this; grind
      have k2 : v < ((n / 2 + 1 : Int) : Rat) * pw (e + 1) := by
        have : ((n + 1 : Int) : Rat) * pw e ≤ ((2 * (n / 2 + 1) : Int) : Rat) * pw e := mul_pw_le.mpr (by omega)
        rw [hs]; push_cast at this h7 ⊢; grind
      obtain ⟨e', ev, q⟩ := ih (n / 2) (e + 1) (by omega) (by omega) (by omega) (by omega) (by omega) k1 k2
      refine ⟨e', Ev.succ ?_, q⟩
      simp only [vec_Power.l0]
      rw [w64 (x := e + 1) (by omega) (by omega)]
      exact Ev.pos c ev
    · obtain rfl : n = 1 := by omega
      refine ⟨e, Ev.succ ?_, h4, by omega, by simpa using h6, ?_⟩
      · simp only [vec_Power.l0]
        exact Ev.neg c (Ev.now _)
      · rw [pw_succ]; push_cast at h7; grind
/-- The power of two beneath the greatest of numbers, if that isn't zero. -/
theorem power_fin {l : List Int} (hl : ∀ x ∈ l, U x ∧ fin x) (hn : l.length ≤ 1000000) : ∃ m j, Ev (fun K => order_Greatest.f K l) (m, j) ∧ 0 ≤ m ∧ m < INF ∧ (∀ x ∈ l, mag x ≤ m) ∧ (m = 0 ∨ ∃ x ∈ l, mag x = m) ∧
    (m = 0 → Ev (fun K => vec_Power.f K l) (0, false)) ∧
    (0 < m → ∃ e, Ev (fun K => vec_Power.f K l) (e, true) ∧ -2000 ≤ e ∧ e ≤ 2000 ∧ pw e ≤ vm m ∧ vm m < pw (e + 1)) := by
  obtain ⟨m, j, ev, a1, a2, a3, a4⟩ := greatest_fin hl hn
  have um : U m := ⟨a1, by have : INF < 18446744073709551616 := by decide
                           omega⟩
  have hI : INF < 9223372036854775808 := by decide
  have hmag : m % 9223372036854775808 = m := by omega
  refine ⟨m, j, ev, a1, a2, a3, a4, fun h => ?_, fun h => ?_⟩
  · unfold vec_Power.f
    exact Ev.bind ev (Ev.bind (word_Parts_none um (.inl (by omega))) (Ev.pos rfl (Ev.now _)))
  · have hp := word_Parts_ev um (by omega) (by rw [hmag]; exact a2)
    rw [hmag] at hp
    have mp := mant_pos h
    have ml := mant_lt (m := m)
    have hfin : fin m := by unfold fin mag; omega
    obtain ⟨e1, e2⟩ := fin_expo hfin
    have hmm : mag m = m := hmag
    rw [hmm] at e1 e2
    have hb : blen (mant m) ≤ 53 := blen_le (by decide) (by rw [show p2 53 = 9007199254740992 from by decide]; exact ml)
    have hp2 := pw_pos (expo m)
    obtain ⟨e', ev2, q⟩ := power_f0 (v := vm m) _ (mant m) (expo m) (Nat.le_refl _) mp ml (by omega) (by omega) Rat.le_refl (by unfold vm; exact mul_pw_lt.mpr (by omega))
    refine ⟨e', ?_, q⟩
    unfold vec_Power.f
    exact Ev.bind ev (Ev.bind hp (Ev.neg (by simp; omega) ev2))

theorem sqrt_U {a r f : Int} (ha : U a) (h : SqrtR a r f) : U r := by
  unfold SqrtR at h
  split at h
  · rw [h.1]; exact ⟨by decide, by decide⟩
  · split at h
    · rw [h.1]; exact ha
    · split at h
      · rw [h.1]; exact ⟨by decide, by decide⟩
      · obtain ⟨W, E, h0, h54, h1, h2, h3, h4⟩ := h
        have hI : INF < 18446744073709551616 := by decide
        by_cases e : ((W : Rat) * pw E) * ((W : Rat) * pw E) = vm (mag a)
        · have := (h3 e).range
          exact ⟨this.1, by omega⟩
        · have hp := pw_pos E
          have := (h4 e ((W : Rat) * pw E + pw E / 2) (by grind) (by push_cast; grind)).range
          exact ⟨this.1, by omega⟩
theorem clampT {n : Int} (h0 : -10000 ≤ n) (h1 : n ≤ 10000) : mx (-10000) (mn n 10000) = n := by unfold mx mn; grind
theorem sc_R {n x : Int} (hx : U x) : ScaleR x (mx (-10000) (mn n 10000)) (sc n x).1 (sc n x).2 := by
  obtain ⟨r, f, ev, R⟩ := more_Scale_ev hx n
  rw [Ev.det (sc_ev hx) ev]
  exact R
theorem sc_R' {n x : Int} (hx : U x) (h0 : -10000 ≤ n) (h1 : n ≤ 10000) : ScaleR x n (sc n x).1 (sc n x).2 := by
  have := sc_R (n := n) hx
  rwa [clampT h0 h1] at this

theorem cAdd {F a b : Int} (ha : U a) (hb : U b) : ∃ F', Ev (fun k => soft_Calc_Add.f k F a b) (av a b, F') ∧ F8 F' ∧ B8 F' = B8 F ||| af a b := by
  refine ⟨Go.bits .or .u8 F (aP a b).2, ?_, F8_or _ _, B8_or _ _⟩
  unfold soft_Calc_Add.f
  exact Ev.bind (aP_ev ha hb) (Ev.call rfl (Ev.now _))
theorem cMul {F a b : Int} (ha : U a) (hb : U b) : ∃ F', Ev (fun k => soft_Calc_Mul.f k F a b) (mv a b, F') ∧ F8 F' ∧ B8 F' = B8 F ||| mf a b := by
  refine ⟨Go.bits .or .u8 F (mP a b).2, ?_, F8_or _ _, B8_or _ _⟩
  unfold soft_Calc_Mul.f
  exact Ev.bind (mP_ev ha hb) (Ev.call rfl (Ev.now _))

/-- The least number. -/
def eta : Rat := pw (-1074)
theorem eta_pos : 0 < eta := pw_pos _
theorem RB.errA {x : Rat} {m f : Int} (h : RB x m f) (hx : x ≤ pw 1000) : m < INF ∧ rabs (vm m - x) ≤ ulp * x + eta := by
  have hm : m < INF := by
    have hv6 : vm (enc 949 4503599627370496) = ((4503599627370496 : Int) : Rat) * pw 949 := vm_enc (by decide) (by decide) (by decide) (.inr (by decide))
    have e52 : ((4503599627370496 : Int) : Rat) = pw 52 := by rw [pw_p2 (by decide)]; rfl
    rw [e52, ← pw_add] at hv6
    have h6 : x ≤ vm (enc 949 4503599627370496) := by
      rw [hv6]
      have := pw_lt (a := 1000) (b := 52 + 949) (by decide)
      have := pw_pos 1000
      grind
    have rl := h.mono (RB.self (m := enc 949 4503599627370496) (by decide) (by decide)) h6
    have : enc 949 4503599627370496 < INF := by decide
    omega
  refine ⟨hm, ?_⟩
  have up := ulp_pos
  have ep := eta_pos
  by_cases c : pw (-1022) ≤ x
  · have := h.errN c hm
    grind
  · obtain ⟨q, n, hr, e1, e2⟩ := h.ex
    have hp := hr.pos
    by_cases c2 : enc q n < INF
    · rw [if_pos c2] at e1
      subst e1
      rw [hr.val_enc]
      have hq : q = -1074 := by
        rcases hr.lo with h1 | h1
        · exact h1
        · exfalso
          have e52 : ((4503599627370496 : Int) : Rat) = pw 52 := by rw [pw_p2 (by decide)]; rfl
          rw [e52, ← pw_add] at h1
          have := hr.hq
          have := pw_mono (a := -1022) (b := 52 + q) (by omega)
          grind
      subst hq
      have n1 := hr.near1
      have n2 := hr.near2
      push_cast at n1 n2
      have u0 : 0 ≤ ulp * x := Rat.mul_nonneg (Rat.le_of_lt up) (Rat.le_of_lt hp)
      show rabs ((n : Rat) * eta - x) ≤ _
      have p := pw_pos (-1074)
      have n1 : 2 * x ≤ (2 * (n : Rat) + 1) * eta := n1
      have n2 : (2 * (n : Rat) - 1) * eta ≤ 2 * x := n2
      unfold rabs
      grind
    · rw [if_neg c2] at e1; omega
theorem Rd.errA {x : Rat} {z : Bool} {r f : Int} (h : Rd x z r f) (hb : rabs x ≤ pw 1000) : fin r ∧ rabs (val r - x) ≤ ulp * rabs x + eta := by
  have ep := eta_pos
  by_cases hx : x = 0
  · obtain ⟨e, _⟩ := h.zero hx
    have m0 : mag r = 0 := by rw [e]; exact mag_signed (by decide) (by decide)
    have v : val r = 0 := val_zero_iff.mpr m0
    refine ⟨by unfold fin; rw [m0]; decide, ?_⟩
    rw [v, hx]
    have : (0 : Rat) - 0 = 0 := by grind
    rw [this, rabs_zero]
    grind
  · obtain ⟨m, h1, rfl⟩ := h.num hx
    obtain ⟨e1, e2⟩ := h1.errA hb
    clear hb
    have hr := h1.range
    have hI : INF < 9223372036854775808 := by decide
    rw [val_signed hr.1 (by omega)]
    refine ⟨by unfold fin; rw [mag_signed hr.1 (by omega)]; exact e1, ?_⟩
    by_cases c : x < 0
    · rw [if_pos (by simpa using c)]
      have a : rabs (-vm m - x) = rabs (vm m - rabs x) := by
        have : rabs x = -x := by unfold rabs; rw [if_pos c]
        rw [this, ← rabs_neg]
        congr 1
        grind
      rw [a]; exact e2
    · rw [if_neg (by simpa using c)]
      have : rabs x = x := by unfold rabs; rw [if_neg c]
      rw [this] at e2 ⊢
      exact e2
theorem sq_nonneg (t : Rat) : 0 ≤ t * t := by
  rcases Rat.le_total (a := 0) (b := t) with h | h
  · exact Rat.mul_nonneg h h
  · have := Rat.mul_nonneg (a := -t) (b := -t) (by grind) (by grind)
    grind
theorem rabs_of_nonneg {x : Rat} (h : 0 ≤ x) : rabs x = x := by unfold rabs; rw [if_neg (by grind)]
theorem sq_step {t u q : Rat} (ht : rabs t ≤ 2) (hu : rabs (u - t) ≤ ulp * rabs t + eta) (hq : rabs (q - u * u) ≤ ulp * rabs (u * u) + eta) :
    rabs (q - t * t) ≤ 31 / 10 * (ulp * (t * t)) + 10 * eta := by
  have u0 := ulp_pos
  have e0 := eta_pos
  have us : ulp ≤ 1 / 100000 := by decide +kernel
  have es : eta ≤ 1 / 100000 := by decide +kernel
  have tt : t * t = rabs t * rabs t := by rw [← rabs_mul]; exact (rabs_of_nonneg (sq_nonneg t)).symm
  have d1 : rabs (u * u - t * t) ≤ rabs (u - t) * (2 * rabs t + rabs (u - t)) := by
    have e : u * u - t * t = (u - t) * (2 * t + (u - t)) := by grind
    rw [e, rabs_mul]
    refine Rat.mul_le_mul_of_nonneg_left ?_ (rabs_nonneg _)
    have := rabs_add (2 * t) (u - t)
    have e2 : rabs (2 * t) = 2 * rabs t := by rw [rabs_mul]; rfl
    rw [e2] at this
    exact this
  have uu : rabs (u * u) ≤ rabs (u * u - t * t) + t * t := by
    have := rabs_add (u * u - t * t) (t * t)
    have e : u * u - t * t + t * t = u * u := by grind
    have e2 : rabs (t * t) = t * t := by rw [rabs_mul, tt]
    rw [e, e2] at this
    exact this
  have d2 : rabs (q - t * t) ≤ rabs (q - u * u) + rabs (u * u - t * t) := by
    have := rabs_add (q - u * u) (u * u - t * t)
    have e : q - u * u + (u * u - t * t) = q - t * t := by grind
    rw [e] at this
    exact this
  have x0 := rabs_nonneg t
  have y0 := rabs_nonneg (u - t)
  generalize rabs (q - t * t) = g1 at d2 ⊢
  generalize rabs (q - u * u) = g2 at d2 hq
  generalize rabs (u * u - t * t) = g3 at d1 d2 uu
  generalize rabs (u * u) = g4 at hq uu
  rw [tt] at uu ⊢
  clear tt
  generalize rabs (u - t) = D at *
  generalize rabs t = x at *
  have k1 : D * (2 * x + D) ≤ (ulp * x + eta) * (2 * x + (ulp * x + eta)) := by
    have a := Rat.mul_le_mul_of_nonneg_right hu (show 0 ≤ 2 * x + D by grind)
    have b := Rat.mul_le_mul_of_nonneg_left (show 2 * x + D ≤ 2 * x + (ulp * x + eta) by grind) (show 0 ≤ ulp * x + eta by grind)
    exact Rat.le_trans a b
  have xx : 0 ≤ x * x := Rat.mul_nonneg x0 x0
  have a0 : 0 ≤ ulp * (x * x) := Rat.mul_nonneg (Rat.le_of_lt u0) xx
  have a1 : ulp * (ulp * (x * x)) ≤ 1 / 100000 * (ulp * (x * x)) := Rat.mul_le_mul_of_nonneg_right us a0
  have a2 : eta * x ≤ eta * 2 := Rat.mul_le_mul_of_nonneg_left ht (Rat.le_of_lt e0)
  have a3 : ulp * (eta * x) ≤ 1 / 100000 * (eta * x) := Rat.mul_le_mul_of_nonneg_right us (Rat.mul_nonneg (Rat.le_of_lt e0) x0)
  have a4 : eta * eta ≤ 1 / 100000 * eta := Rat.mul_le_mul_of_nonneg_right es (Rat.le_of_lt e0)
  have b3 : g3 ≤ 21 / 10 * (ulp * (x * x)) + 5 * eta := by
    have e : (ulp * x + eta) * (2 * x + (ulp * x + eta)) = 2 * (ulp * (x * x)) + ulp * (ulp * (x * x)) + 2 * (eta * x) + 2 * (ulp * (eta * x)) + eta * eta := by grind
    rw [e] at k1
    grind
  have b4 : ulp * g4 ≤ ulp * (21 / 10 * (ulp * (x * x)) + 5 * eta + x * x) := Rat.mul_le_mul_of_nonneg_left (by grind) (Rat.le_of_lt u0)
  have b5 : ulp * (21 / 10 * (ulp * (x * x)) + 5 * eta + x * x) = 21 / 10 * (ulp * (ulp * (x * x))) + 5 * (ulp * eta) + ulp * (x * x) := by grind
  have a5 : ulp * eta ≤ 1 / 100000 * eta := Rat.mul_le_mul_of_nonneg_right us (Rat.le_of_lt e0)
  rw [b5] at b4
  have k2 : D * (2 * x + D) ≤ 21 / 10 * (ulp * (x * x)) + 5 * eta := by grind
  have b3' : g3 ≤ 205 / 100 * (ulp * (x * x)) + 5 * eta := by
    have e : (ulp * x + eta) * (2 * x + (ulp * x + eta)) = 2 * (ulp * (x * x)) + ulp * (ulp * (x * x)) + 2 * (eta * x) + 2 * (ulp * (eta * x)) + eta * eta := by grind
    rw [e] at k1
    grind
  grind
theorem sum_step {T p q s s' M : Rat} (M0 : 0 ≤ M) (M1 : M ≤ 40) (T0 : 0 ≤ T) (p0 : 0 ≤ p) (h1 : rabs (q - p) ≤ 31 / 10 * (ulp * p) + 10 * eta) (h2 : rabs (s - T) ≤ (31 / 10 + 101 / 100 * M) * (ulp * T) + 20 * M * eta)
    (h3 : rabs (s' - (s + q)) ≤ ulp * rabs (s + q) + eta) : rabs (s' - (T + p)) ≤ (31 / 10 + 101 / 100 * (M + 1)) * (ulp * (T + p)) + 20 * (M + 1) * eta := by
  have u0 := ulp_pos
  have e0 := eta_pos
  have us : ulp ≤ 1 / 100000 := by decide +kernel
  have A0 : 0 ≤ ulp * T := Rat.mul_nonneg (Rat.le_of_lt u0) T0
  have B0 : 0 ≤ ulp * p := Rat.mul_nonneg (Rat.le_of_lt u0) p0
  have sq : rabs (s + q) ≤ rabs (s - T) + rabs (q - p) + T + p := by
    have a := rabs_add (s - T) (q - p)
    have b := rabs_add ((s - T) + (q - p)) (T + p)
    have e : s - T + (q - p) + (T + p) = s + q := by grind
    have e2 : rabs (T + p) = T + p := by unfold rabs; rw [if_neg (by grind)]
    rw [e, e2] at b
    grind
  have d : rabs (s' - (T + p)) ≤ rabs (s' - (s + q)) + rabs (s - T) + rabs (q - p) := by
    have a := rabs_add (s' - (s + q)) ((s - T) + (q - p))
    have b := rabs_add (s - T) (q - p)
    have e : s' - (s + q) + (s - T + (q - p)) = s' - (T + p) := by grind
    rw [e] at a
    grind
  generalize rabs (s' - (T + p)) = g1 at *
  generalize rabs (s' - (s + q)) = g2 at *
  generalize rabs (s + q) = g3 at *
  generalize rabs (s - T) = g4 at *
  generalize rabs (q - p) = g5 at *
  have a := ulp * T
  have MA : M * (ulp * T) ≤ 40 * (ulp * T) := Rat.mul_le_mul_of_nonneg_right M1 A0
  have ME : M * eta ≤ 40 * eta := Rat.mul_le_mul_of_nonneg_right M1 (Rat.le_of_lt e0)
  have MB : 0 ≤ M * (ulp * p) := Rat.mul_nonneg M0 B0
  have g3b : g3 ≤ 50 * (ulp * T) + 4 * (ulp * p) + 900 * eta + T + p := by grind
  have k1 : ulp * g3 ≤ ulp * (50 * (ulp * T) + 4 * (ulp * p) + 900 * eta + T + p) := Rat.mul_le_mul_of_nonneg_left g3b (Rat.le_of_lt u0)
  have e1 : ulp * (50 * (ulp * T) + 4 * (ulp * p) + 900 * eta + T + p) = 50 * (ulp * (ulp * T)) + 4 * (ulp * (ulp * p)) + 900 * (ulp * eta) + ulp * T + ulp * p := by grind
  rw [e1] at k1
  have a1 : ulp * (ulp * T) ≤ 1 / 100000 * (ulp * T) := Rat.mul_le_mul_of_nonneg_right us A0
  have a2 : ulp * (ulp * p) ≤ 1 / 100000 * (ulp * p) := Rat.mul_le_mul_of_nonneg_right us B0
  have a3 : ulp * eta ≤ 1 / 100000 * eta := Rat.mul_le_mul_of_nonneg_right us (Rat.le_of_lt e0)
  have e2 : (31 / 10 + 101 / 100 * (M + 1)) * (ulp * (T + p)) + 20 * (M + 1) * eta = 31 / 10 * (ulp * T) + 101 / 100 * (M * (ulp * T)) + 101 / 100 * (ulp * T) + 31 / 10 * (ulp * p) + 101 / 100 * (M * (ulp * p)) + 101 / 100 * (ulp * p) + 20 * (M * eta) + 20 * eta := by grind
  have e3 : (31 / 10 + 101 / 100 * M) * (ulp * T) + 20 * M * eta = 31 / 10 * (ulp * T) + 101 / 100 * (M * (ulp * T)) + 20 * (M * eta) := by grind
  rw [e2]
  rw [e3] at h2
  grind
theorem sum_err {x : Nat → Int} {t : Nat → Rat} (hx : ∀ i, U (x i)) {n : Nat} (hn : n ≤ 40) (fx : ∀ i, i < n → fin (x i) ∧ rabs (t i) ≤ 2 ∧ rabs (val (x i) - t i) ≤ ulp * rabs (t i) + eta) :
    ∀ m, m ≤ n → fin (dS x x m) ∧ sm (fun i => t i * t i) m ≤ 4 * (m : Rat) ∧ rabs (val (dS x x m) - sm (fun i => t i * t i) m) ≤ (31 / 10 + 101 / 100 * (m : Rat)) * (ulp * sm (fun i => t i * t i) m) + 20 * (m : Rat) * eta := by
  intro m
  induction m with
  | zero =>
    intro _
    refine ⟨fin_zero, ?_, ?_⟩
    · simp only [sm]; grind
    · show rabs (val 0 - 0) ≤ _
      rw [val_zero]
      have : (0 : Rat) - 0 = 0 := by grind
      rw [this, rabs_zero]
      simp only [sm]
      have z0 : ((0 : Nat) : Rat) = 0 := rfl
      rw [z0]
      grind
  | succ m ih =>
    intro hm
    obtain ⟨fs, hT, hs⟩ := ih (by omega)
    obtain ⟨f1, t2, hu⟩ := fx m (by omega)
    have us : ulp ≤ 1 / 100000 := by decide +kernel
    have es : eta ≤ 1 / 100000 := by decide +kernel
    have u0 := ulp_pos
    have e0 := eta_pos
    have big : (1000 : Rat) ≤ pw 1000 := by decide +kernel
    have um : rabs (val (x m)) ≤ 3 := by
      have a := rabs_add (val (x m) - t m) (t m)
      have e : val (x m) - t m + t m = val (x m) := by grind
      rw [e] at a
      have b : ulp * rabs (t m) ≤ 1 / 100000 * rabs (t m) := Rat.mul_le_mul_of_nonneg_right us (rabs_nonneg _)
      grind
    have pm : rabs (val (x m) * val (x m)) ≤ 9 := by
      rw [rabs_mul]
      have a := Rat.mul_le_mul_of_nonneg_right um (rabs_nonneg (val (x m)))
      grind
    obtain ⟨fq, hq⟩ := (mv_Rd (hx m) (hx m) f1 f1).errA (Rat.le_trans pm (by grind))
    have hsq := sq_step t2 hu hq
    have mb : (m : Rat) ≤ 40 := by exact_mod_cast (show m ≤ 40 by omega)
    have m0 : (0 : Rat) ≤ (m : Rat) := by exact_mod_cast Nat.zero_le m
    have T0 : 0 ≤ sm (fun i => t i * t i) m := sm_nonneg (fun i => sq_nonneg (t i)) m
    have p0 := sq_nonneg (t m)
    have p4 : t m * t m ≤ 4 := by
      have : t m * t m = rabs (t m) * rabs (t m) := by rw [← rabs_mul]; unfold rabs; rw [if_neg (by grind)]
      rw [this]
      have a := Rat.mul_le_mul_of_nonneg_right t2 (rabs_nonneg (t m))
      grind
    have usd := dS_U hx hx m
    have cast : ((m + 1 : Nat) : Rat) = (m : Rat) + 1 := by push_cast; rfl
    have sb : rabs (val (dS x x m) + val (mv (x m) (x m))) ≤ 1000 := by
      have a := rabs_add (val (dS x x m) - sm (fun i => t i * t i) m) (val (mv (x m) (x m)) - t m * t m)
      have b := rabs_add (val (dS x x m) - sm (fun i => t i * t i) m + (val (mv (x m) (x m)) - t m * t m)) (sm (fun i => t i * t i) m + t m * t m)
      have e : val (dS x x m) - sm (fun i => t i * t i) m + (val (mv (x m) (x m)) - t m * t m) + (sm (fun i => t i * t i) m + t m * t m) = val (dS x x m) + val (mv (x m) (x m)) := by grind
      have e2 : rabs (sm (fun i => t i * t i) m + t m * t m) = sm (fun i => t i * t i) m + t m * t m := by unfold rabs; rw [if_neg (by grind)]
      rw [e, e2] at b
      generalize sm (fun i => t i * t i) m = T at *
      have A0 : 0 ≤ ulp * T := Rat.mul_nonneg (Rat.le_of_lt u0) T0
      have MA : (m : Rat) * (ulp * T) ≤ 40 * (ulp * T) := Rat.mul_le_mul_of_nonneg_right mb A0
      have ME : (m : Rat) * eta ≤ 40 * eta := Rat.mul_le_mul_of_nonneg_right mb (Rat.le_of_lt e0)
      have uT : ulp * T ≤ 1 / 100000 * T := Rat.mul_le_mul_of_nonneg_right us T0
      have up : ulp * (t m * t m) ≤ 1 / 100000 * (t m * t m) := Rat.mul_le_mul_of_nonneg_right us p0
      have e3 : (31 / 10 + 101 / 100 * (m : Rat)) * (ulp * T) + 20 * (m : Rat) * eta = 31 / 10 * (ulp * T) + 101 / 100 * ((m : Rat) * (ulp * T)) + 20 * ((m : Rat) * eta) := by grind
      rw [e3] at hs
      grind
    obtain ⟨fs', hs'⟩ := (av_Rd usd (mv_U (hx m) (hx m)) fs fq).errA (Rat.le_trans sb big)
    refine ⟨fs', ?_, ?_⟩
    · simp only [sm]; rw [cast]; grind
    · rw [cast]
      exact sum_step m0 mb T0 p0 hsq hs hs'

theorem nrm_dS {u : List Int} (hu : ∀ x ∈ u, U x) (hn : u.length ≤ 1000000) : ∀ t i : Nat, u.length - i = t → i ≤ u.length → ∀ F : Int, ∃ G,
    (∀ (e c : Int) (r : Int × Int), Ev (fun K => vec_Nrm2.l0 K e (dS (fun j => rd u (j : Int)) (fun j => rd u (j : Int)) u.length) u (u.length : Int) (u.length : Int) c G) r → Ev (fun K => vec_Nrm2.l0 K e (dS (fun j => rd u (j : Int)) (fun j => rd u (j : Int)) i) u (u.length : Int) i c F) r) := by
  intro t
  induction t with
  | zero =>
    intro i h1 h2 F
    obtain rfl : i = u.length := by omega
    exact ⟨F, fun e c r h => h⟩
  | succ t ih =>
    intro i h1 h2 F
    have hi : i < u.length := by omega
    have su := rd_U hu i
    obtain ⟨F1, ev1, _, _⟩ := cMul (F := F) su su
    obtain ⟨F2, ev2, _, _⟩ := cAdd (F := F1) (dS_U (x := fun j => rd u (j : Int)) (y := fun j => rd u (j : Int)) (rd_U hu) (rd_U hu) i) (mv_U su su)
    obtain ⟨G, k1⟩ := ih (i + 1) (by omega) (by omega) F2
    refine ⟨G, fun e c r h => ?_⟩
    refine Ev.succ ?_
    simp only [vec_Nrm2.l0]
    rw [w64 (x := (i : Int) + 1) (by omega) (by omega)]
    exact Ev.pos (by omega) (Ev.pos (by omega) (Ev.pos (by omega) (Ev.bind ev1 (Ev.bind ev2 (k1 e c r h)))))
/-- What the sum may be from the exact one, in all. -/
def kap (n : Rat) : Rat := (31 / 10 + 101 / 100 * n) * ulp + 20 * n * eta
theorem kap_ok : ∀ n : Fin 41, 0 ≤ kap n ∧ kap n ≤ 1 / 2 ∧ (1 + kap n) * ((1 + ulq) * (1 + ulq)) * ((1 + ulp) * (1 + ulp)) ≤ (1 + ((n : Nat) + 4 : Int) * pw (-53)) * (1 + ((n : Nat) + 4 : Int) * pw (-53)) ∧
    (1 - ((n : Nat) + 4 : Int) * pw (-53)) * (1 - ((n : Nat) + 4 : Int) * pw (-53)) ≤ (1 - kap n) * ((1 - ulq) * (1 - ulq)) * ((1 - ulp) * (1 - ulp)) := by decide +kernel
theorem sm_mul (g : Nat → Rat) (c : Rat) : ∀ n, sm (fun i => g i * c) n = sm g n * c
  | 0 => by simp only [sm]; grind
  | n + 1 => by simp only [sm]; rw [sm_mul g c n]; grind
theorem sm_ge {g : Nat → Rat} (h : ∀ k, 0 ≤ g k) : ∀ n k, k < n → g k ≤ sm g n
  | 0, k, hk => by omega
  | n + 1, k, hk => by
    simp only [sm]
    have a := sm_nonneg h n
    by_cases c : k = n
    · subst c; grind
    · have := sm_ge h n k (by omega)
      have := h n
      grind
theorem sm_congr {g h : Nat → Rat} : ∀ n, (∀ i, i < n → g i = h i) → sm g n = sm h n
  | 0, _ => rfl
  | n + 1, e => by simp only [sm]; rw [sm_congr n (fun i hi => e i (by omega)), e n (by omega)]
theorem near_mul {T v q W k a b : Rat} (T0 : 0 ≤ T) (h1 : v ≤ T * (1 + k)) (h2 : q ≤ v * a) (h3 : W ≤ q * b) (a0 : 0 ≤ a) (b0 : 0 ≤ b) : W ≤ T * ((1 + k) * a * b) := by
  have e1 := Rat.mul_le_mul_of_nonneg_right (Rat.le_trans h2 (Rat.mul_le_mul_of_nonneg_right h1 a0)) b0
  have e2 := Rat.le_trans h3 e1
  grind
theorem near_mul' {T v q W k a b : Rat} (T0 : 0 ≤ T) (h1 : T * (1 - k) ≤ v) (h2 : v * a ≤ q) (h3 : q * b ≤ W) (a0 : 0 ≤ a) (b0 : 0 ≤ b) : T * ((1 - k) * a * b) ≤ W := by
  have e1 := Rat.mul_le_mul_of_nonneg_right (Rat.le_trans (Rat.mul_le_mul_of_nonneg_right h1 a0) h2) b0
  have e2 := Rat.le_trans e1 h3
  grind
theorem sq_mono {x y : Rat} (h0 : 0 ≤ x) (h : x ≤ y) : x * x ≤ y * y :=
  Rat.le_trans (Rat.mul_le_mul_of_nonneg_left h h0) (Rat.mul_le_mul_of_nonneg_right h (Rat.le_trans h0 h))


/-- What a divisor of 64 bits, its highest one set, is made of. -/
structure Norm (y y1 y0 : Int) : Prop where
  eq : y = y1 * 4294967296 + y0
  l1 : 2147483648 ≤ y1
  h1 : y1 < 4294967296
  l0 : 0 ≤ y0
  h0 : y0 < 4294967296

/-- A digit that is guessed is right, or too great. -/
structure Guess (y y1 y0 u d q rh : Int) : Prop where
  u0 : 0 ≤ u
  u1 : u < y
  d0 : 0 ≤ d
  d1 : d < 4294967296
  rh0 : 0 ≤ rh
  rhe : rh = u - q * y1
  q0 : (u * 4294967296 + d) / y ≤ q
  q1 : q ≤ 4294967297

theorem quo_lt {y u d : Int} (hy : 0 < y) (u0 : 0 ≤ u) (u1 : u < y) (d0 : 0 ≤ d) (d1 : d < 4294967296) : 0 ≤ (u * 4294967296 + d) / y ∧ (u * 4294967296 + d) / y < 4294967296 := by
  refine ⟨Int.ediv_nonneg (by omega) (by omega), Int.ediv_lt_of_lt_mul hy (by omega)⟩
theorem guess_first {y y1 y0 u d : Int} (n : Norm y y1 y0) (u0 : 0 ≤ u) (u1 : u < y) (d0 : 0 ≤ d) (d1 : d < 4294967296) : Guess y y1 y0 u d (u / y1) (u - u / y1 * y1) := by
  obtain ⟨e, l1, h1, l0, h0⟩ := n
  have hy1 : 0 < y1 := by omega
  have hy : 0 < y := by omega
  have m := Int.mul_ediv_add_emod u y1
  have r0 := Int.emod_nonneg u (Int.ne_of_gt hy1)
  have c : u / y1 * y1 = y1 * (u / y1) := Int.mul_comm _ _
  refine ⟨u0, u1, d0, d1, by omega, rfl, ?_, ?_⟩
  · -- (u 2^32 + d)/y ≤ (u 2^32 + d)/(y1 2^32) = u/y1
    have h2 : 0 < y1 * 4294967296 := by omega
    have h3 : (u * 4294967296 + d) / (y1 * 4294967296) = u / y1 := by
      rw [Int.mul_comm y1, ← Int.ediv_ediv_of_nonneg (by decide)]
      congr 1
      omega
    rw [← h3]
    have m2 := Int.mul_ediv_add_emod (u * 4294967296 + d) y
    have r2 := Int.emod_nonneg (u * 4294967296 + d) (Int.ne_of_gt hy)
    apply Int.le_ediv_of_mul_le h2
    have q0 := (quo_lt hy u0 u1 d0 d1).1
    have : (u * 4294967296 + d) / y * (y1 * 4294967296) ≤ (u * 4294967296 + d) / y * y := Int.mul_le_mul_of_nonneg_left (by omega) q0
    have c2 : (u * 4294967296 + d) / y * y = y * ((u * 4294967296 + d) / y) := Int.mul_comm _ _
    omega
  · have : u / y1 < 4294967298 := by apply Int.ediv_lt_of_lt_mul hy1; omega
    omega
theorem prod32 {q y0 : Int} (q0 : 0 ≤ q) (q1 : q ≤ 4294967297) (l0 : 0 ≤ y0) (h0 : y0 < 4294967296) : 0 ≤ q * y0 ∧ q * y0 ≤ 18446744073709551615 := by
  have := mul_bound q0 l0 q1 (show y0 ≤ 4294967295 by omega)
  omega
/-- The test: is the digit too great? -/
theorem guess_test {y y1 y0 u d q rh : Int} (n : Norm y y1 y0) (g : Guess y y1 y0 u d q rh) (hr : rh < 4294967296) :
    (q ≥ 4294967296 ∨ q * y0 > 4294967296 * rh + d) ↔ (u * 4294967296 + d) / y < q := by
  obtain ⟨e, l1, h1, l0, h0⟩ := n
  have hy : 0 < y := by omega
  obtain ⟨q2, q3⟩ := quo_lt hy g.u0 g.u1 g.d0 g.d1
  have hq := g.q0
  have e1 : q * y = q * y1 * 4294967296 + q * y0 := by rw [e]; grind
  have e2 : q * y1 = u - rh := by have := g.rhe; omega
  have key : q * y0 > 4294967296 * rh + d ↔ (u * 4294967296 + d) / y < q := by
    rw [Int.ediv_lt_iff_lt_mul hy, e1, e2]
    constructor <;> intro h <;> omega
  constructor
  · rintro (h | h)
    · omega
    · exact key.mp h
  · intro h
    exact .inr (key.mpr h)
theorem guess_next {y y1 y0 u d q rh : Int} (n : Norm y y1 y0) (g : Guess y y1 y0 u d q rh) (h : (u * 4294967296 + d) / y < q) : Guess y y1 y0 u d (q - 1) (rh + y1) := by
  have := n.l1
  have e : (q - 1) * y1 = q * y1 - y1 := by grind
  exact ⟨g.u0, g.u1, g.d0, g.d1, by have := g.rh0; omega, by have := g.rhe; omega, by omega, by have := g.q1; omega⟩
/-- Where the rest is great, the digit is right. -/
theorem guess_done {y y1 y0 u d q rh : Int} (n : Norm y y1 y0) (g : Guess y y1 y0 u d q rh) (hr : 4294967296 ≤ rh) (hq : q ≤ 4294967296) : q = (u * 4294967296 + d) / y := by
  obtain ⟨e, l1, h1, l0, h0⟩ := n
  have hy : 0 < y := by omega
  obtain ⟨q2, q3⟩ := quo_lt hy g.u0 g.u1 g.d0 g.d1
  have hq0 := g.q0
  have e1 : q * y = q * y1 * 4294967296 + q * y0 := by rw [e]; grind
  have e2 : q * y1 = u - rh := by have := g.rhe; omega
  have p := mul_bound (show 0 ≤ q by omega) l0 hq (show y0 ≤ 4294967295 by omega)
  have : q ≤ (u * 4294967296 + d) / y := by
    apply Int.le_ediv_of_mul_le hy
    rw [e1, e2]
    have := g.d0
    omega
  omega

theorem low_digit {y y1 y0 x9 x10 un0 q1 : Int} (n : Norm y y1 y0) {u d : Int} (hd0 : 0 ≤ un0) (hd1 : un0 < 4294967296) (hq0 : 0 ≤ q1) (hq1 : q1 < 4294967296) (u0 : 0 ≤ u) (u1 : u < y) (hy : y < 18446744073709551616) (k : Nat) :
    ∀ q rh, Guess y y1 y0 u un0 q rh → rh < 4294967296 → (q - (u * 4294967296 + un0) / y).toNat ≤ k →
      Ev (fun f => bits_Div64.l1 f y 0 y1 y0 un0 q1 rh u q) (q1 * 4294967296 + (u * 4294967296 + un0) / y, (u * 4294967296 + un0) % y) := by
  have hy0 : 0 < y := by have := n.eq; have := n.l1; have := n.l0; omega
  obtain ⟨t0, t1⟩ := quo_lt hy0 u0 u1 hd0 hd1
  have md := Int.mul_ediv_add_emod (u * 4294967296 + un0) y
  have r0 := Int.emod_nonneg (u * 4294967296 + un0) (Int.ne_of_gt hy0)
  have r1 := Int.emod_lt_of_pos (u * 4294967296 + un0) hy0
  -- the end
  have fin : ∀ q : Int, q = (u * 4294967296 + un0) / y → IntKind.u64.wrap (q1 * 4294967296 + q) = q1 * 4294967296 + (u * 4294967296 + un0) / y ∧
      shr .u64 (IntKind.u64.wrap (IntKind.u64.wrap (IntKind.u64.wrap (u * 4294967296) + un0) - IntKind.u64.wrap (q * y))) 0 = (u * 4294967296 + un0) % y := by
    intro q hq
    refine ⟨by rw [hq]; exact wu64 (by omega) (by omega), ?_⟩
    rw [shr_u64 (by decide) (by decide), p2_0, Int.ediv_one, hq, wu64_mod, wu64_mod, wu64_mod, wu64_mod]
    have c : (u * 4294967296 + un0) / y * y = y * ((u * 4294967296 + un0) / y) := Int.mul_comm _ _
    rw [c]
    generalize y * ((u * 4294967296 + un0) / y) = Z at *
    generalize (u * 4294967296 + un0) % y = R at *
    omega
  induction k with
  | zero =>
    intro q rh g hr hk
    have hq : q = (u * 4294967296 + un0) / y := by have := g.q0; omega
    obtain ⟨f1, f2⟩ := fin q hq
    have ht := guess_test n g hr
    have hno : ¬ (q ≥ 4294967296 ∨ q * y0 > 4294967296 * rh + un0) := fun h => by have := ht.mp h; omega
    refine Ev.succ ?_
    simp only [bits_Div64.l1]
    refine Ev.neg (fun h => hno (.inl h)) (Ev.succ ?_)
    simp only [bits_Div64.j4]
    have p := prod32 (show 0 ≤ q by omega) g.q1 n.l0 n.h0
    have := g.rh0
    rw [wu64 (x := q * y0) (by omega) (by omega), wu64 (x := 4294967296 * rh) (by omega) (by omega), wu64 (x := 4294967296 * rh + un0) (by omega) (by omega),
      decide_eq_false (fun h => hno (.inr h))]
    refine Ev.neg (by decide) (Ev.pos (by decide) ?_)
    rw [wu64 (x := q1 * 4294967296) (by omega) (by omega), f1, f2]
    exact Ev.now _
  | succ k ih =>
    intro q rh g hr hk
    by_cases hq : q = (u * 4294967296 + un0) / y
    · exact ih q rh g hr (by omega)
    · have hlt : (u * 4294967296 + un0) / y < q := by have := g.q0; omega
      have ht := (guess_test n g hr).mpr hlt
      have g' := guess_next n g hlt
      have rh0 := g.rh0
      have l1 := n.l1
      have h1 := n.h1
      have gq1 := g.q1
      -- what the test answers leads on
      have on : Ev (fun f => bits_Div64.j4 f y 0 y1 y0 un0 q1 rh u q true) (q1 * 4294967296 + (u * 4294967296 + un0) / y, (u * 4294967296 + un0) % y) := by
        refine Ev.succ ?_
        simp only [bits_Div64.j4]
        rw [wu64 (x := rh + y1) (by omega) (by omega), wu64 (x := q - 1) (by omega) (by omega)]
        refine Ev.pos trivial ?_
        by_cases hb : rh + y1 ≥ 4294967296
        · have hq' := guess_done n g' hb (by omega)
          obtain ⟨f1, f2⟩ := fin (q - 1) hq'
          refine Ev.pos hb (Ev.pos (by decide) ?_)
          rw [wu64 (x := q1 * 4294967296) (by omega) (by omega), f1, f2]
          exact Ev.now _
        · exact Ev.neg hb (ih (q - 1) (rh + y1) g' (by omega) (by omega))
      refine Ev.succ ?_
      simp only [bits_Div64.l1]
      by_cases hbig : q ≥ 4294967296
      · exact Ev.pos hbig on
      · refine Ev.neg hbig ?_
        have p := prod32 (show 0 ≤ q by omega) g.q1 n.l0 n.h0
        rw [wu64 (x := q * y0) (by omega) (by omega), wu64 (x := 4294967296 * rh) (by omega) (by omega), wu64 (x := 4294967296 * rh + un0) (by omega) (by omega),
          decide_eq_true (by rcases ht with h | h; exact absurd h hbig; exact h)]
        exact on

theorem high_digit {y y1 y0 u un1 un0 : Int} (n : Norm y y1 y0) (hy : y < 18446744073709551616) (u0 : 0 ≤ u) (u1 : u < y) (d0 : 0 ≤ un1) (d1 : un1 < 4294967296) (e0 : 0 ≤ un0) (e1 : un0 < 4294967296) (k : Nat) :
    ∀ q rh, Guess y y1 y0 u un1 q rh → rh < 4294967296 → (q - (u * 4294967296 + un1) / y).toNat ≤ k →
      Ev (fun f => bits_Div64.l0 f y 0 y1 y0 u un1 un0 q rh) ((u * 4294967296 + un1) / y * 4294967296 + ((u * 4294967296 + un1) % y * 4294967296 + un0) / y, ((u * 4294967296 + un1) % y * 4294967296 + un0) % y) := by
  have hy0 : 0 < y := by have := n.eq; have := n.l1; have := n.l0; omega
  obtain ⟨t0, t1⟩ := quo_lt hy0 u0 u1 d0 d1
  have md := Int.mul_ediv_add_emod (u * 4294967296 + un1) y
  have r0 := Int.emod_nonneg (u * 4294967296 + un1) (Int.ne_of_gt hy0)
  have r1 := Int.emod_lt_of_pos (u * 4294967296 + un1) hy0
  have l1 := n.l1
  have h1 := n.h1
  have hy1 : 0 < y1 := by omega
  -- on to the second digit
  have fin : ∀ q : Int, q = (u * 4294967296 + un1) / y → Ev (fun f => bits_Div64.j2 f y 0 y1 y0 u un1 un0 q) ((u * 4294967296 + un1) / y * 4294967296 + ((u * 4294967296 + un1) % y * 4294967296 + un0) / y, ((u * 4294967296 + un1) % y * 4294967296 + un0) % y) := by
    intro q hq
    have eu : IntKind.u64.wrap (IntKind.u64.wrap (IntKind.u64.wrap (u * 4294967296) + un1) - IntKind.u64.wrap (q * y)) = (u * 4294967296 + un1) % y := by
      rw [hq, wu64_mod, wu64_mod, wu64_mod, wu64_mod]
      have c : (u * 4294967296 + un1) / y * y = y * ((u * 4294967296 + un1) / y) := Int.mul_comm _ _
      rw [c]
      generalize y * ((u * 4294967296 + un1) / y) = Z at *
      generalize (u * 4294967296 + un1) % y = R at *
      omega
    refine Ev.succ ?_
    simp only [bits_Div64.j2]
    refine Ev.neg (by omega) ?_
    rw [eu, Int.tdiv_eq_ediv_of_nonneg r0]
    have g := guess_first (u := (u * 4294967296 + un1) % y) (d := un0) n r0 r1 e0 e1
    have gq := g.q1
    have gr := g.rh0
    have m := Int.mul_ediv_add_emod ((u * 4294967296 + un1) % y) y1
    have s0 := Int.emod_nonneg ((u * 4294967296 + un1) % y) (Int.ne_of_gt hy1)
    have s1 := Int.emod_lt_of_pos ((u * 4294967296 + un1) % y) hy1
    have c : (u * 4294967296 + un1) % y / y1 * y1 = y1 * ((u * 4294967296 + un1) % y / y1) := Int.mul_comm _ _
    have qn : 0 ≤ (u * 4294967296 + un1) % y / y1 := Int.ediv_nonneg r0 (by omega)
    have qy := Int.mul_nonneg qn (show 0 ≤ y1 by omega)
    rw [wu64 (x := (u * 4294967296 + un1) % y / y1) qn (by omega), wu64 (x := (u * 4294967296 + un1) % y / y1 * y1) (by omega) (by omega), wu64 (x := (u * 4294967296 + un1) % y - (u * 4294967296 + un1) % y / y1 * y1) (by omega) (by omega)]
    have := low_digit (x9 := 0) (x10 := 0) (q1 := q) n (d := 0) e0 e1 (by omega) (by omega) r0 r1 hy _ _ _ g (by omega) (Nat.le_refl _)
    rw [hq] at this ⊢
    exact this
  induction k with
  | zero =>
    intro q rh g hr hk
    have hq : q = (u * 4294967296 + un1) / y := by have := g.q0; omega
    have ht := guess_test n g hr
    have hno : ¬ (q ≥ 4294967296 ∨ q * y0 > 4294967296 * rh + un1) := fun h => by have := ht.mp h; omega
    refine Ev.succ ?_
    simp only [bits_Div64.l0]
    refine Ev.neg (fun h => hno (.inl h)) (Ev.succ ?_)
    simp only [bits_Div64.j1]
    have p := prod32 (show 0 ≤ q by omega) g.q1 n.l0 n.h0
    have := g.rh0
    rw [wu64 (x := q * y0) (by omega) (by omega), wu64 (x := 4294967296 * rh) (by omega) (by omega), wu64 (x := 4294967296 * rh + un1) (by omega) (by omega),
      decide_eq_false (fun h => hno (.inr h))]
    exact Ev.neg (by decide) (fin q hq)
  | succ k ih =>
    intro q rh g hr hk
    by_cases hq : q = (u * 4294967296 + un1) / y
    · exact ih q rh g hr (by omega)
    · have hlt : (u * 4294967296 + un1) / y < q := by have := g.q0; omega
      have ht := (guess_test n g hr).mpr hlt
      have g' := guess_next n g hlt
      have rh0 := g.rh0
      have gq1 := g.q1
      have on : Ev (fun f => bits_Div64.j1 f y 0 y1 y0 u un1 un0 q rh true) ((u * 4294967296 + un1) / y * 4294967296 + ((u * 4294967296 + un1) % y * 4294967296 + un0) / y, ((u * 4294967296 + un1) % y * 4294967296 + un0) % y) := by
        refine Ev.succ ?_
        simp only [bits_Div64.j1]
        rw [wu64 (x := rh + y1) (by omega) (by omega), wu64 (x := q - 1) (by omega) (by omega)]
        refine Ev.pos trivial ?_
        by_cases hb : rh + y1 ≥ 4294967296
        · exact Ev.pos hb (fin (q - 1) (guess_done n g' hb (by omega)))
        · exact Ev.neg hb (ih (q - 1) (rh + y1) g' (by omega) (by omega))
      refine Ev.succ ?_
      simp only [bits_Div64.l0]
      by_cases hbig : q ≥ 4294967296
      · exact Ev.pos hbig on
      · refine Ev.neg hbig ?_
        have p := prod32 (show 0 ≤ q by omega) g.q1 n.l0 n.h0
        rw [wu64 (x := q * y0) (by omega) (by omega), wu64 (x := 4294967296 * rh) (by omega) (by omega), wu64 (x := 4294967296 * rh + un1) (by omega) (by omega),
          decide_eq_true (by rcases ht with h | h; exact absurd h hbig; exact h)]
        exact on

/-- A quotient of 128 bits by 64, the divisor's highest bit set, nothing in the low word. -/
theorem bits_Div64_ev {u y : Int} (u0 : 0 < u) (u1 : u < y) (y0 : 9223372036854775808 ≤ y) (y1 : y < 18446744073709551616) :
    Ev (fun k => bits_Div64.f k u 0 y) (u * 18446744073709551616 / y, u * 18446744073709551616 % y) := by
  have hy0 : 0 < y := by omega
  have hU : U y := ⟨by omega, y1⟩
  have bl : blen y = 64 := blen_unique (by decide) (by rw [show p2 (64 - 1) = 9223372036854775808 from by decide]; exact y0) (by rw [p2_64]; exact y1)
  have lz : Ev (fun k => bits_LeadingZeros64.f k y) 0 := by
    unfold bits_LeadingZeros64.f
    refine Ev.bind (bits_Len64_ev hU) ?_
    rw [bl, w64 (x := 64 - 64) (by decide) (by decide)]
    exact Ev.now _
  have n : Norm y (y / 4294967296) (y % 4294967296) := ⟨by omega, by omega, by omega, by omega, by omega⟩
  have g := guess_first (u := u) (d := 0) n (by omega) u1 (by decide) (by decide)
  have hq0 : 0 < y / 4294967296 := by omega
  have m := Int.mul_ediv_add_emod u (y / 4294967296)
  have s0 := Int.emod_nonneg u (Int.ne_of_gt hq0)
  have s1 := Int.emod_lt_of_pos u hq0
  have c : u / (y / 4294967296) * (y / 4294967296) = y / 4294967296 * (u / (y / 4294967296)) := Int.mul_comm _ _
  have qn : 0 ≤ u / (y / 4294967296) := Int.ediv_nonneg (by omega) (by omega)
  have qy := Int.mul_nonneg qn (show 0 ≤ y / 4294967296 by omega)
  have gq := g.q1
  have hd := high_digit (un1 := 0) (un0 := 0) n y1 (by omega) u1 (by decide) (by decide) (by decide) (by decide) _ _ _ g (by omega) (Nat.le_refl _)
  -- the two digits are the quotient
  have e : u * 18446744073709551616 / y = (u * 4294967296 + 0) / y * 4294967296 + ((u * 4294967296 + 0) % y * 4294967296 + 0) / y ∧ u * 18446744073709551616 % y = ((u * 4294967296 + 0) % y * 4294967296 + 0) % y := by
    rw [Int.add_zero, Int.add_zero]
    have md := Int.mul_ediv_add_emod (u * 4294967296) y
    have e1 : u * 18446744073709551616 = u * 4294967296 % y * 4294967296 + y * (u * 4294967296 / y * 4294967296) := by
      generalize u * 4294967296 % y = R at *
      generalize u * 4294967296 / y = Q at *
      have : y * (Q * 4294967296) = y * Q * 4294967296 := by grind
      omega
    rw [e1]
    constructor
    · rw [Int.add_mul_ediv_left _ _ (Int.ne_of_gt hy0)]; omega
    · rw [Int.add_mul_emod_self_left]
  rw [e.1, e.2]
  unfold bits_Div64.f
  refine Ev.neg (by omega) (Ev.neg (by omega) (Ev.neg (by omega) (Ev.bind lz ?_)))
  rw [show IntKind.u64.wrap 0 = 0 from by decide, show IntKind.u64.wrap (64 - 0) = 64 from by decide]
  have ey : shl .u64 y 0 = y := by rw [shl_u64 (by decide) (by decide), p2_0]; omega
  have eu : shl .u64 u 0 = u := by rw [shl_u64 (by decide) (by decide), p2_0]; omega
  have e0 : shl .u64 0 0 = 0 := by decide
  have es : shr .u64 0 64 = 0 := by decide
  have eo : bits .or .u64 u 0 = u := by
    have := u64_or 0 (x := u) (y := 0) (by omega) (by simp) (by omega) (by decide) (by decide) (by decide)
    rw [this, Int.add_zero]
  rw [ey, eu, e0, es, eo, u64_and32 (by omega) y1, show bits .and .u64 0 4294967295 = 0 from by decide]
  refine Ev.pos (by decide) (Ev.pos (by decide) (Ev.neg (by omega) ?_))
  rw [Int.tdiv_eq_ediv_of_nonneg (by omega), wu64 (x := u / (y / 4294967296)) qn (by omega), wu64 (x := u / (y / 4294967296) * (y / 4294967296)) (by omega) (by omega), wu64 (x := u - u / (y / 4294967296) * (y / 4294967296)) (by omega) (by omega)]
  exact hd
theorem wide_Div_ev {u y : Int} (u0 : 0 < u) (u1 : u < y) (y0 : 9223372036854775808 ≤ y) (y1 : y < 18446744073709551616) :
    Ev (fun k => wide_Wide_Div.f k u 0 y) (u * 18446744073709551616 / y, u * 18446744073709551616 % y, true) := by
  unfold wide_Wide_Div.f
  exact Ev.neg (by omega) (Ev.bind (bits_Div64_ev u0 u1 y0 y1) (Ev.now _))

theorem div_nan {a b : Int} (ha : U a) (hb : U b) (h : (isNan a || isNan b) = true) : Ev (fun k => soft_Div.f k a b) (QNAN, nanF a b) := by
  unfold soft_Div.f
  refine Ev.bind (soft_nan2 ha hb) ?_
  exact Ev.pos h (Ev.now _)
/-- Infinity by infinity, or zero by zero? -/
def divBad (a b : Int) : Bool := (decide (mag a = INF) && decide (mag b = INF)) || (decide (mag a = 0) && decide (mag b = 0))
theorem div_kinds {a b : Int} (ha : U a) (hb : U b) (h : (isNan a || isNan b) = false) {r : Int × Int}
    (hk : Ev (fun k => soft_Div.j0 k a b (neg a != neg b) (kindOf (mag a)) (kindOf (mag b)) (divBad a b)) r) : Ev (fun k => soft_Div.f k a b) r := by
  unfold soft_Div.f
  refine Ev.bind (soft_nan2 ha hb) (Ev.neg (by simp only [h]; decide) (Ev.call (word_Neg_eq ha) (Ev.call (word_Neg_eq hb) (Ev.bind (word_Kind_ev ha) (Ev.bind (word_Kind_ev hb) ?_)))))
  rw [kind_mag, kind_mag, neg_def, neg_def]
  have kz : ∀ c : Int, (kindOf (mag c) == 1) = decide (mag c = 0) := fun c => by
    rw [Bool.eq_iff_iff]; simp only [beq_iff_eq, decide_eq_true_eq]; exact kind_zero
  have I0 : (INF : Int) ≠ 0 := by decide
  rw [kz]
  by_cases c1 : kindOf (mag a) = 4
  · have m1 := kind_inf.mp c1
    have n1 : ¬ kindOf (mag a) = 1 := by rw [c1]; decide
    by_cases c2 : kindOf (mag b) = 4
    · have m2 := kind_inf.mp c2
      have e : divBad a b = true := by unfold divBad; rw [m1, m2]; decide
      rw [e] at hk
      exact Ev.pos c1 (Ev.pos c2 hk)
    · have m2 : mag b ≠ INF := fun h => c2 (kind_inf.mpr h)
      have e : divBad a b = false := by unfold divBad; rw [m1]; simp [m2, I0]
      rw [e] at hk
      exact Ev.pos c1 (Ev.neg c2 (Ev.neg n1 hk))
  · have m1 : mag a ≠ INF := fun h => c1 (kind_inf.mpr h)
    by_cases c2 : kindOf (mag a) = 1
    · have m2 := kind_zero.mp c2
      have e : divBad a b = decide (mag b = 0) := by unfold divBad; rw [m2]; simp [Ne.symm I0]
      rw [e] at hk
      exact Ev.neg c1 (Ev.pos c2 hk)
    · have m2 : mag a ≠ 0 := fun h => c2 (kind_zero.mpr h)
      have e : divBad a b = false := by unfold divBad; simp [m1, m2]
      rw [e] at hk
      exact Ev.neg c1 (Ev.neg c2 hk)
theorem div_bad {a b : Int} (ha : U a) (hb : U b) (h : divBad a b = true) : Ev (fun k => soft_Div.f k a b) (QNAN, 16) := by
  refine div_kinds ha hb ?_ ?_
  · unfold divBad at h
    have h0 : isNan a = false ∧ isNan b = false := by
      unfold isNan INF at *
      simp at h ⊢
      omega
    rw [h0.1, h0.2]; rfl
  · refine Ev.succ ?_
    simp only [soft_Div.j0]
    exact Ev.pos h (Ev.now _)
theorem div_infa {a b : Int} (ha : U a) (hb : U b) (h1 : mag a = INF) (h2 : fin b) : Ev (fun k => soft_Div.f k a b) (signed (neg a != neg b) INF, 0) := by
  refine div_kinds ha hb (by rw [fin_nan h2]; unfold isNan; rw [h1]; decide) (Ev.succ ?_)
  simp only [soft_Div.j0]
  have hb0 : divBad a b = false := by
    have : mag b ≠ INF := by unfold fin at h2; omega
    unfold divBad; rw [h1]; simp [this]; intro h; exact absurd h (by decide)
  exact Ev.neg (by rw [hb0]; decide) (Ev.pos (kind_inf.mpr h1) (Ev.call (make_inf _) (Ev.now _)))
theorem div_infb {a b : Int} (ha : U a) (hb : U b) (h1 : fin a) (h2 : mag b = INF) : Ev (fun k => soft_Div.f k a b) (signed (neg a != neg b) 0, 0) := by
  have h3 : mag a ≠ INF := by unfold fin at h1; omega
  refine div_kinds ha hb (by rw [fin_nan h1]; unfold isNan; rw [h2]; decide) (Ev.succ ?_)
  simp only [soft_Div.j0]
  have hb0 : divBad a b = false := by
    unfold divBad; rw [h2]; simp [h3]; intro _ h; exact absurd h (by decide)
  refine Ev.neg (by rw [hb0]; decide) (Ev.neg (fun h => h3 (kind_inf.mp h)) (Ev.pos (kind_inf.mpr h2) (Ev.succ ?_)))
  simp only [soft_Div.j1]
  exact Ev.pos trivial (Ev.call (make_zero _) (Ev.now _))
theorem div_fin_start {a b : Int} (ha : U a) (hb : U b) (fa : fin a) (fb : fin b) (h0 : ¬ (mag a = 0 ∧ mag b = 0)) {r : Int × Int}
    (h : Ev (fun k => soft_Div.j1 k a b (neg a != neg b) (kindOf (mag b)) (decide (mag a = 0))) r) : Ev (fun k => soft_Div.f k a b) r := by
  have h3 : mag a ≠ INF := by unfold fin at fa; omega
  have h4 : mag b ≠ INF := by unfold fin at fb; omega
  have kz : (kindOf (mag a) == 1) = decide (mag a = 0) := by
    rw [Bool.eq_iff_iff]; simp only [beq_iff_eq, decide_eq_true_eq]; exact kind_zero
  refine div_kinds ha hb (by rw [fin_nan fa, fin_nan fb]; rfl) (Ev.succ ?_)
  simp only [soft_Div.j0]
  have hb0 : divBad a b = false := by
    unfold divBad; simp [h3]; intro h; exact fun h' => h0 ⟨h, h'⟩
  refine Ev.neg (by rw [hb0]; decide) (Ev.neg (fun h => h3 (kind_inf.mp h)) (Ev.neg (fun h => h4 (kind_inf.mp h)) ?_))
  rw [kz]
  exact h
/-- A number by zero. -/
theorem div_zero {a b : Int} (ha : U a) (hb : U b) (fa : fin a) (za : mag a ≠ 0) (zb : mag b = 0) : Ev (fun k => soft_Div.f k a b) (signed (neg a != neg b) INF, 8) := by
  refine div_fin_start ha hb fa (by unfold fin; rw [zb]; decide) (fun h => za h.1) (Ev.succ ?_)
  simp only [soft_Div.j1]
  exact Ev.neg (by simp [za]) (Ev.pos (kind_zero.mpr zb) (Ev.call (make_inf _) (Ev.now _)))

/-- DIV: of two numbers, the second of which isn't zero. -/
theorem div_fin {a b : Int} (ha : U a) (hb : U b) (fa : fin a) (fb : fin b) (zb : mag b ≠ 0) : ∃ r f, Ev (fun k => soft_Div.f k a b) (r, f) ∧ Rd (val a / val b) (neg a != neg b) r f := by
  have vb0 : val b ≠ 0 := fun h => zb (val_zero_iff.mp h)
  by_cases za : mag a = 0
  · refine ⟨_, 0, div_fin_start ha hb fa fb (fun h => zb h.2) (Ev.succ ?_), ⟨fun _ => ⟨rfl, rfl⟩, fun h => absurd ?_ h⟩⟩
    · simp only [soft_Div.j1]
      exact Ev.pos (by simp [za]) (Ev.call (make_zero _) (Ev.now _))
    · rw [val_zero_iff.mpr za, Rat.div_def]; grind
  · have ma0 := (mag_lt (a := a)).1
    have mb0 := (mag_lt (a := b)).1
    have pa := word_Parts_ev ha (show 0 < mag a by omega) fa
    have pb := word_Parts_ev hb (show 0 < mag b by omega) fb
    obtain ⟨ea1, ea2⟩ := fin_expo fa
    obtain ⟨eb1, eb2⟩ := fin_expo fb
    have ma := mant_pos (m := mag a) (by omega)
    have ma' := mant_lt (m := mag a)
    have mb := mant_pos (m := mag b) (by omega)
    have mb' := mant_lt (m := mag b)
    have va : vm (mag a) = (mant (mag a) : Rat) * pw (expo (mag a)) := rfl
    have vb : vm (mag b) = (mant (mag b) : Rat) * pw (expo (mag b)) := rfl
    have emag : ∀ c : Int, c % 9223372036854775808 = mag c := fun _ => rfl
    rw [emag] at pa pb
    generalize hM : mant (mag a) = M at *
    generalize hN : mant (mag b) = N at *
    generalize hE : expo (mag a) = E at *
    generalize hG : expo (mag b) = G at *
    obtain ⟨bm1, bm2, bm3⟩ := blen_pos ma
    obtain ⟨bn1, bn2, bn3⟩ := blen_pos mb
    have hLm : blen M ≤ 53 := blen_le (by decide) (by rw [show p2 53 = 9007199254740992 from by decide]; omega)
    have hLn : blen N ≤ 53 := blen_le (by decide) (by rw [show p2 53 = 9007199254740992 from by decide]; omega)
    -- the shifted numbers
    have hs : 0 ≤ 53 - blen M + 10 := by omega
    have ht : 0 ≤ 64 - blen N := by omega
    have hP := p2_pos (53 - blen M + 10)
    have hQ := p2_pos (64 - blen N)
    have u0 : 4611686018427387904 ≤ M * p2 (53 - blen M + 10) := by
      have e : (4611686018427387904 : Int) = p2 (blen M - 1) * p2 (53 - blen M + 10) := by rw [← p2_add (by omega) hs, show blen M - 1 + (53 - blen M + 10) = 62 from by omega]; decide
      rw [e]; exact Int.mul_le_mul_of_nonneg_right bm2 (by omega)
    have u1 : M * p2 (53 - blen M + 10) < 9223372036854775808 := by
      have e : (9223372036854775808 : Int) = p2 (blen M) * p2 (53 - blen M + 10) := by rw [← p2_add (by omega) hs, show blen M + (53 - blen M + 10) = 63 from by omega]; decide
      rw [e]; exact Int.mul_lt_mul_of_pos_right bm3 hP
    have y0 : 9223372036854775808 ≤ N * p2 (64 - blen N) := by
      have e : (9223372036854775808 : Int) = p2 (blen N - 1) * p2 (64 - blen N) := by rw [← p2_add (by omega) ht, show blen N - 1 + (64 - blen N) = 63 from by omega]; decide
      rw [e]; exact Int.mul_le_mul_of_nonneg_right bn2 (by omega)
    have y1 : N * p2 (64 - blen N) < 18446744073709551616 := by
      have e : (18446744073709551616 : Int) = p2 (blen N) * p2 (64 - blen N) := by rw [← p2_add (by omega) ht, show blen N + (64 - blen N) = 64 from by omega]; decide
      rw [e]; exact Int.mul_lt_mul_of_pos_right bn3 hQ
    have dv := wide_Div_ev (u := M * p2 (53 - blen M + 10)) (y := N * p2 (64 - blen N)) (by omega) (by omega) y0 y1
    have es : shl .u64 M (53 - blen M + 10) = M * p2 (53 - blen M + 10) := by rw [shl_u64 hs (by omega)]; exact Int.emod_eq_of_lt (by omega) (by omega)
    have et : shl .u64 N (64 - blen N) = N * p2 (64 - blen N) := by rw [shl_u64 ht (by omega)]; exact Int.emod_eq_of_lt (by omega) (by omega)
    -- the quotient as a number
    have hx : rabs (val a / val b) * ((N * p2 (64 - blen N) : Int) : Rat) = ((M * p2 (53 - blen M + 10) * 18446744073709551616 : Int) : Rat) * pw (E - (53 - blen M) - 10 - 64 - (G - (64 - blen N))) := by
      have e1 : rabs (val a / val b) * vm (mag b) = vm (mag a) := by
        have p1 := vm_pos (m := mag a) (by omega)
        have p2 := vm_pos (m := mag b) (by omega)
        have e0 : val a / val b * val b = val a := by rw [Rat.div_mul_cancel vb0]
        have e3 : rabs (val a / val b) * rabs (val b) = rabs (val a) := by
          rw [← rabs_mul, e0]
        rw [rabs_val, rabs_val] at e3
        exact e3
      rw [va, vb] at e1
      have w1 : ((p2 (53 - blen M + 10) : Int) : Rat) = pw (53 - blen M + 10) := (pw_p2 hs).symm
      have w2 : ((p2 (64 - blen N) : Int) : Rat) = pw (64 - blen N) := (pw_p2 ht).symm
      have w3 : (18446744073709551616 : Rat) = pw 64 := by rw [pw_p2 (by decide), p2_64]; rfl
      push_cast
      rw [w1, w2, w3]
      -- multiply by 2^G
      have hG' := pw_pos G
      have k1 : (rabs (val a / val b) * ((N : Rat) * pw (64 - blen N))) * pw G = ((M : Rat) * pw (53 - blen M + 10) * pw 64 * pw (E - (53 - blen M) - 10 - 64 - (G - (64 - blen N)))) * pw G := by
        have k2 : pw (53 - blen M + 10) * pw 64 * pw (E - (53 - blen M) - 10 - 64 - (G - (64 - blen N))) * pw G = pw E * pw (64 - blen N) := by
          rw [← pw_add, ← pw_add, ← pw_add, ← pw_add]; congr 1; omega
        have k3 : (rabs (val a / val b) * ((N : Rat) * pw (64 - blen N))) * pw G = (rabs (val a / val b) * ((N : Rat) * pw G)) * pw (64 - blen N) := by grind
        rw [k3, e1]
        grind
      exact Rat.le_antisymm (Rat.le_of_mul_le_mul_right (by rw [k1]; exact Rat.le_refl) hG') (Rat.le_of_mul_le_mul_right (by rw [k1]; exact Rat.le_refl) hG')
    have hX0 : 0 < rabs (val a / val b) := by
      refine rabs_pos (fun h => ?_)
      have : val a = 0 := by
        have e0 : val a / val b * val b = val a := by rw [Rat.div_mul_cancel vb0]
        rw [← e0, h]; grind
      exact za (val_zero_iff.mp this)
    generalize hu : M * p2 (53 - blen M + 10) = u at *
    generalize hy : N * p2 (64 - blen N) = y at *
    generalize hD : E - (53 - blen M) - 10 - 64 - (G - (64 - blen N)) = D at *
    have yp : 0 < y := by omega
    have md := Int.mul_ediv_add_emod (u * 18446744073709551616) y
    have r0 := Int.emod_nonneg (u * 18446744073709551616) (Int.ne_of_gt yp)
    have r1 := Int.emod_lt_of_pos (u * 18446744073709551616) yp
    have q0 : 4611686018427387904 ≤ u * 18446744073709551616 / y := by apply Int.le_ediv_of_mul_le yp; omega
    have q1 : u * 18446744073709551616 / y < 18446744073709551616 := by apply Int.ediv_lt_of_lt_mul yp; omega
    generalize hq : u * 18446744073709551616 / y = q at *
    generalize hr : u * 18446744073709551616 % y = r at *
    have hyr : (0 : Rat) < (y : Rat) := by exact_mod_cast yp
    have hw : wv 0 q = q := by unfold wv; omega
    have hblen : 54 ≤ blen q := by
      obtain ⟨c1, c2, c3⟩ := blen_pos (x := q) (by omega)
      refine Decidable.byContradiction fun hc => ?_
      have := p2_le (show blen q ≤ 53 from by omega)
      have e53 : p2 53 = 9007199254740992 := by decide
      omega
    have bd : -100000 ≤ D ∧ D ≤ 100000 := by omega
    obtain ⟨m, f, er, rb⟩ := round_Round_ev (neg a != neg b) U_0 ⟨by omega, q1⟩ bd.1 bd.2 (r != 0) (x := rabs (val a / val b)) (by rw [hw]; omega)
      (by intro h
          have h : r = 0 := by simpa using h
          rw [hw]
          have e1 : u * 18446744073709551616 = q * y := by rw [Int.mul_comm q]; omega
          rw [e1] at hx
          have e2 : rabs (val a / val b) * (y : Rat) = ((q : Rat) * pw D) * (y : Rat) := by push_cast at hx; grind
          exact Rat.le_antisymm (Rat.le_of_mul_le_mul_right (by rw [e2]; exact Rat.le_refl) hyr) (Rat.le_of_mul_le_mul_right (by rw [e2]; exact Rat.le_refl) hyr))
      (by intro h
          have h : r ≠ 0 := by simpa using h
          rw [hw]
          refine ⟨⟨?_, ?_⟩, hblen⟩
          · refine Rat.lt_of_mul_lt_mul_right (c := (y : Rat)) ?_ (Rat.le_of_lt hyr)
            rw [hx]
            have h1 : (y * q : Int) * pw D < (u * 18446744073709551616 : Int) * pw D := mul_pw_lt.mpr (by omega)
            push_cast at h1 ⊢; grind
          · refine Rat.lt_of_mul_lt_mul_right (c := (y : Rat)) ?_ (Rat.le_of_lt hyr)
            rw [hx]
            have h2 : y * (q + 1) = y * q + y := by grind
            have h1 : (u * 18446744073709551616 : Int) * pw D < (y * (q + 1) : Int) * pw D := mul_pw_lt.mpr (by omega)
            push_cast at h1 ⊢; grind)
    refine ⟨signed (neg a != neg b) m, f, div_fin_start ha hb fa fb (fun h => za h.1) (Ev.succ ?_), ⟨fun h => ?_, fun _ => ⟨m, rb, ?_⟩⟩⟩
    · simp only [soft_Div.j1]
      refine Ev.neg (by simp [za]) (Ev.neg (fun h => zb (kind_zero.mp h)) (Ev.bind pa (Ev.bind pb ?_)))
      dsimp only
      have l1 : wv 0 M = M := by unfold wv; omega
      have l2 : wv 0 N = N := by unfold wv; omega
      have k1 := wide_Len_ev (h := 0) (l := M) U_0 ⟨by omega, by omega⟩
      have k2 := wide_Len_ev (h := 0) (l := N) U_0 ⟨by omega, by omega⟩
      rw [l1] at k1
      rw [l2] at k2
      refine Ev.bind k1 (Ev.bind k2 ?_)
      rw [w64 (x := 53 - blen M) (by omega) (by omega), w64 (x := 53 - blen M + 10) (by omega) (by omega), w64 (x := 64 - blen N) (by omega) (by omega), es, et,
        w64 (x := E - (53 - blen M)) (by omega) (by omega), w64 (x := E - (53 - blen M) - 10) (by omega) (by omega), w64 (x := E - (53 - blen M) - 10 - 64) (by omega) (by omega),
        w64 (x := G - (64 - blen N)) (by omega) (by omega), w64 (x := E - (53 - blen M) - 10 - 64 - (G - (64 - blen N))) (by omega) (by omega), hD]
      refine Ev.pos hs (Ev.pos ht (Ev.bind dv ?_))
      exact Ev.bind er (Ev.now _)
    · exfalso
      rw [h] at hX0
      exact absurd hX0 (by decide)
    · congr 1
      have p1 := vm_pos (m := mag a) (by omega)
      have p2 := vm_pos (m := mag b) (by omega)
      have e0 : val a / val b * val b = val a := by rw [Rat.div_mul_cancel vb0]
      have hne : val a / val b ≠ 0 := fun h => by rw [h] at hX0; exact absurd hX0 (by decide)
      have sa := val_eq a
      have sb := val_eq b
      generalize val a / val b = X at *
      generalize val a = A at *
      generalize val b = B at *
      by_cases c1 : X < 0
      · rw [decide_eq_true c1]
        cases h1 : neg a <;> cases h2 : neg b <;> rw [h1] at sa <;> rw [h2] at sb <;> simp at sa sb
        · have := Rat.mul_pos (show 0 < -X by grind) (show 0 < B by grind); grind
        · rfl
        · rfl
        · have := Rat.mul_pos (show 0 < -X by grind) (show 0 < -B by grind); grind
      · rw [decide_eq_false c1]
        have c2 : 0 < X := by grind
        cases h1 : neg a <;> cases h2 : neg b <;> rw [h1] at sa <;> rw [h2] at sb <;> simp at sa sb
        · rfl
        · have := Rat.mul_pos c2 (show 0 < -B by grind); grind
        · have := Rat.mul_pos c2 (show 0 < B by grind); grind
        · rfl
def DivR (a b r f : Int) : Prop :=
  if (isNan a || isNan b) = true then r = QNAN ∧ f = nanF a b
  else if divBad a b = true then r = QNAN ∧ f = 16
  else if mag a = INF then r = signed (neg a != neg b) INF ∧ f = 0
  else if mag b = INF then r = signed (neg a != neg b) 0 ∧ f = 0
  else if mag b = 0 then r = signed (neg a != neg b) INF ∧ f = 8
  else Rd (val a / val b) (neg a != neg b) r f

theorem div_ev {a b : Int} (ha : U a) (hb : U b) : ∃ r f, Ev (fun k => soft_Div.f k a b) (r, f) ∧ DivR a b r f := by
  unfold DivR
  by_cases h : (isNan a || isNan b) = true
  · exact ⟨_, _, div_nan ha hb h, by rw [if_pos h]; exact ⟨rfl, rfl⟩⟩
  · obtain ⟨h0, na, nb⟩ := nan_or h
    by_cases iz : divBad a b = true
    · exact ⟨_, _, div_bad ha hb iz, by rw [if_neg h, if_pos iz]; exact ⟨rfl, rfl⟩⟩
    · by_cases ia : mag a = INF
      · have ib : mag b ≠ INF := fun hh => iz (by unfold divBad; rw [ia, hh]; decide)
        exact ⟨_, _, div_infa ha hb ia (fin_of nb ib), by rw [if_neg h, if_neg iz, if_pos ia]; exact ⟨rfl, rfl⟩⟩
      · by_cases ib : mag b = INF
        · exact ⟨_, _, div_infb ha hb (fin_of na ia) ib, by rw [if_neg h, if_neg iz, if_neg ia, if_pos ib]; exact ⟨rfl, rfl⟩⟩
        · by_cases zb : mag b = 0
          · have za : mag a ≠ 0 := fun hh => iz (by unfold divBad; rw [zb, hh]; decide)
            exact ⟨_, _, div_zero ha hb (fin_of na ia) za zb, by rw [if_neg h, if_neg iz, if_neg ia, if_neg ib, if_pos zb]; exact ⟨rfl, rfl⟩⟩
          · obtain ⟨r, f, ev, rd⟩ := div_fin ha hb (fin_of na ia) (fin_of nb ib) zb
            exact ⟨r, f, ev, by rw [if_neg h, if_neg iz, if_neg ia, if_neg ib, if_neg zb]; exact rd⟩
theorem DivR.unique {a b r f r' f' : Int} (h : DivR a b r f) (h' : DivR a b r' f') : r = r' ∧ f = f' := by
  unfold DivR at h h'
  by_cases c1 : (isNan a || isNan b) = true
  · rw [if_pos c1] at h h'; omega
  · rw [if_neg c1] at h h'
    by_cases c2 : divBad a b = true
    · rw [if_pos c2] at h h'; omega
    · rw [if_neg c2] at h h'
      by_cases c3 : mag a = INF
      · rw [if_pos c3] at h h'; omega
      · rw [if_neg c3] at h h'
        by_cases c4 : mag b = INF
        · rw [if_pos c4] at h h'; omega
        · rw [if_neg c4] at h h'
          by_cases c5 : mag b = 0
          · rw [if_pos c5] at h h'; omega
          · rw [if_neg c5] at h h'; exact h.unique h'
theorem DivR.flags {a b r f : Int} (h : DivR a b r f) : 0 ≤ f ∧ f ≤ 16 := by
  have := nanF_le a b
  unfold DivR at h
  split at h
  · omega
  · split at h
    · omega
    · split at h
      · omega
      · split at h
        · omega
        · split at h
          · omega
          · exact h.flags

theorem DivR.rangeU {a b r f : Int} (h : DivR a b r f) : U r := by
  unfold DivR at h
  have q : U QNAN := by unfold QNAN U; decide
  split at h
  · rw [h.1]; exact q
  · split at h
    · rw [h.1]; exact q
    · split at h
      · rw [h.1]; exact U_signed INF_lt.1 INF_lt.2
      · split at h
        · rw [h.1]; exact U_signed (by decide) (by decide)
        · split at h
          · rw [h.1]; exact U_signed INF_lt.1 INF_lt.2
          · exact h.range.1
noncomputable def dP (a b : Int) : Int × Int := resOf (fun k => soft_Div.f k a b)
theorem dP_ev {a b : Int} (ha : U a) (hb : U b) : Ev (fun k => soft_Div.f k a b) (dP a b) := by
  obtain ⟨r, f, ev, R⟩ := div_ev ha hb
  exact Ev.resE ev
theorem dP_R {a b : Int} (ha : U a) (hb : U b) : DivR a b (dP a b).1 (dP a b).2 := by
  obtain ⟨r, f, ev, R⟩ := div_ev ha hb
  rw [Ev.det (dP_ev ha hb) ev]
  exact R

theorem word_Flip_eq {a : Int} (h : U a) : word_Flip.f a = some (flip a) := by unfold word_Flip.f flip; rw [u64_xor h.1 h.2]

theorem sub_of_add {a b : Int} (hb : U b) {r : Int × Int} (h : Ev (fun k => soft_Add.f k a (flip b)) r) : Ev (fun k => soft_Sub.f k a b) r := by
  unfold soft_Sub.f
  exact Ev.call (word_Flip_eq hb) (Ev.bind h (Ev.now _))

noncomputable def cA (F a b : Int) : Int × Int := (av a b, Go.bits .or .u8 F (aP a b).2)
noncomputable def cS (F a b : Int) : Int × Int := (av a (flip b), Go.bits .or .u8 F (aP a (flip b)).2)
noncomputable def cM (F a b : Int) : Int × Int := (mv a b, Go.bits .or .u8 F (mP a b).2)
noncomputable def cD (F a b : Int) : Int × Int := ((dP a b).1, Go.bits .or .u8 F (dP a b).2)
theorem cA_ev {F a b : Int} (ha : U a) (hb : U b) : Ev (fun k => soft_Calc_Add.f k F a b) (cA F a b) := by
  unfold soft_Calc_Add.f
  exact Ev.bind (aP_ev ha hb) (Ev.call rfl (Ev.now _))
theorem cM_ev {F a b : Int} (ha : U a) (hb : U b) : Ev (fun k => soft_Calc_Mul.f k F a b) (cM F a b) := by
  unfold soft_Calc_Mul.f
  exact Ev.bind (mP_ev ha hb) (Ev.call rfl (Ev.now _))
theorem cS_ev {F a b : Int} (ha : U a) (hb : U b) : Ev (fun k => soft_Calc_Sub.f k F a b) (cS F a b) := by
  unfold soft_Calc_Sub.f
  exact Ev.bind (sub_of_add hb (aP_ev ha (U_flip hb))) (Ev.call rfl (Ev.now _))
theorem cD_ev {F a b : Int} (ha : U a) (hb : U b) : Ev (fun k => soft_Calc_Div.f k F a b) (cD F a b) := by
  unfold soft_Calc_Div.f
  exact Ev.bind (dP_ev ha hb) (Ev.call rfl (Ev.now _))
end Gim
namespace Gim
open Go Go.RowKit Go.Proofs.YtdmhepgfmickdaaDoorW.PrintWords Go.Proofs.YtdmhepgfmickdaaDoorW.PrintLast Go.Proofs.YtdmhepgfmickdaaDoorW.PrintMore Go.Proofs.YtdmhepgfmickdaaDoor.F
set_option linter.unusedVariables false
set_option linter.unusedSectionVars false

/-- Nought, or not too small, and not too great. -/
def Ok (x : Rat) : Prop := (x = 0 ∨ pw (-1022) ≤ rabs x) ∧ rabs x ≤ pw 1000
theorem Rd.errR {x : Rat} {z : Bool} {r f : Int} (h : Rd x z r f) (h0 : x = 0 ∨ pw (-1022) ≤ rabs x) (hb : rabs x ≤ pw 1000) : fin r ∧ rabs (val r - x) ≤ ulp * rabs x := by
  by_cases hx : x = 0
  · obtain ⟨e, _⟩ := h.zero hx
    have m0 : mag r = 0 := by rw [e]; exact mag_signed (by decide) (by decide)
    refine ⟨by unfold fin; rw [m0]; decide, ?_⟩
    rw [val_zero_iff.mpr m0, hx]
    have : (0 : Rat) - 0 = 0 := by grind
    rw [this, rabs_zero]
    exact Rat.mul_nonneg (Rat.le_of_lt ulp_pos) Rat.le_refl
  · have hl : pw (-1022) ≤ rabs x := by
      rcases h0 with h0 | h0
      · exact absurd h0 hx
      · exact h0
    obtain ⟨m, h1, rfl⟩ := h.num hx
    obtain ⟨hm, _⟩ := h1.errA hb
    have e2 := h1.errN hl hm
    have hr := h1.range
    have hI : INF < 9223372036854775808 := by decide
    refine ⟨by unfold fin; rw [mag_signed hr.1 (by omega)]; exact hm, ?_⟩
    rw [val_signed hr.1 (by omega)]
    by_cases c : x < 0
    · rw [if_pos (by simpa using c)]
      have : rabs x = -x := by unfold rabs; rw [if_pos c]
      rw [this] at e2 ⊢
      have a : rabs (-vm m - x) = rabs (vm m - -x) := by rw [show vm m - -x = -(-vm m - x) by grind, rabs_neg]
      rw [a]; exact e2
    · rw [if_neg (by simpa using c)]
      have : rabs x = x := by unfold rabs; rw [if_neg c]
      rw [this] at e2 ⊢
      exact e2
theorem nrm_rel {l : List Int} (hl : ∀ x ∈ l, U x ∧ fin x) (hn : l.length ≤ 40) {c : Int} (hlo : ∃ x ∈ l, pw (-900) ≤ rabs (val x)) (hhi : ∀ x ∈ l, rabs (val x) ≤ pw 900) : ∃ r F, Ev (fun K => vec_Nrm2.f K c l) (r, F) ∧ U r ∧ (fin r ∧ neg r = false ∧
    sm (fun i => val (rd l (i : Int)) * val (rd l (i : Int))) l.length * ((1 - ((l.length : Int) + 4 : Int) * pw (-53)) * (1 - ((l.length : Int) + 4 : Int) * pw (-53))) ≤ val r * val r ∧
    val r * val r ≤ sm (fun i => val (rd l (i : Int)) * val (rd l (i : Int))) l.length * ((1 + ((l.length : Int) + 4 : Int) * pw (-53)) * (1 + ((l.length : Int) + 4 : Int) * pw (-53)))) := by
  have hU : ∀ x ∈ l, U x := fun x hx => (hl x hx).1
  have hn6 : l.length ≤ 1000000 := by omega
  obtain ⟨m, j, eg, m0, m1, hmax, hat, hz, hp⟩ := power_fin hl hn6
  have mlo : pw (-900) ≤ vm m := by
    obtain ⟨x, hx, h⟩ := hlo
    rw [rabs_val] at h
    exact Rat.le_trans h (vm_mono mag_lt.1 (hmax x hx))
  have c0 : ¬ m = 0 := fun h => by rw [h, vm_zero] at mlo; have := pw_pos (-900); grind
  have mhi : vm m ≤ pw 900 := by
    rcases hat with h | ⟨x, hx, h⟩
    · exact absurd h c0
    · rw [← h, ← rabs_val]; exact hhi x hx
  obtain ⟨e, ep, e0, e1, pe, pe1⟩ := hp (by omega)
  obtain ⟨u, hu⟩ : ∃ u, u = l.map (fun x => (sc (-e) x).1) := ⟨_, rfl⟩
  have lu : u.length = l.length := by rw [hu, List.length_map]
  have uU : ∀ x ∈ u, U x := by
    intro x hx
    rw [hu] at hx
    obtain ⟨y, hy, rfl⟩ := List.mem_map.mp hx
    exact sc_U (hU y hy)
  have hun := unit_ev hU hn6 (show -20000 ≤ e by omega) (by omega)
  rw [← hu] at hun
  -- what each number is, scaled
  have hp0 := pw_pos (-e)
  have pme : pw e * pw (-e) = 1 := by rw [Rat.mul_comm]; exact pw_neg_mul e
  have tm : ∀ i, i < l.length → rabs (val (rd l (i : Int)) * pw (-e)) ≤ 2 := fun i hi => by
    have a : vm (mag (rd l (i : Int))) ≤ vm m := by
      rw [rd_at hi]; exact vm_mono mag_lt.1 (hmax _ (List.getElem_mem hi))
    have b : rabs (pw (-e)) = pw (-e) := rabs_of_nonneg (Rat.le_of_lt hp0)
    rw [rabs_mul, rabs_val, b]
    have d := Rat.mul_le_mul_of_nonneg_right (Rat.le_trans a (Rat.le_of_lt pe1)) (Rat.le_of_lt hp0)
    have e2 : pw (e + 1) * pw (-e) = 2 := by rw [pw_succ, Rat.mul_assoc, pme, Rat.mul_one]
    rw [e2] at d
    exact d
  have big : (2 : Rat) ≤ pw 1000 := by decide +kernel
  have us : ∀ i, i < l.length → fin (rd u (i : Int)) ∧ rabs (val (rd l (i : Int)) * pw (-e)) ≤ 2 ∧ rabs (val (rd u (i : Int)) - val (rd l (i : Int)) * pw (-e)) ≤ ulp * rabs (val (rd l (i : Int)) * pw (-e)) + eta := fun i hi => by
    have t2 := tm i hi
    obtain ⟨ux, fx⟩ := hl _ (List.getElem_mem hi)
    have er : rd u (i : Int) = (sc (-e) l[i]).1 := by
      rw [rd_at (by omega)]; simp only [hu, List.getElem_map]
    rw [rd_at hi] at t2 ⊢
    rw [er]
    have R := sc_R' (n := -e) ux (by omega) (by omega)
    have nn : isNan l[i] = false := by
      have := fx
      unfold fin INF mag at this
      unfold isNan; simp only [decide_eq_false_iff_not]
      unfold mag INF
      omega
    unfold ScaleR at R
    rw [if_neg (by rw [nn]; simp)] at R
    by_cases cz : mag l[i] = 0
    · rw [if_pos (.inr cz)] at R
      rw [R.1]
      have v0 : val l[i] = 0 := val_zero_iff.mpr cz
      refine ⟨fx, t2, ?_⟩
      rw [v0]
      have z1 : (0 : Rat) * pw (-e) = 0 := by grind
      have z2 : (0 : Rat) - 0 = 0 := by grind
      rw [z1, z2, rabs_zero]
      have := eta_pos
      grind
    · rw [if_neg (by unfold fin at fx; omega)] at R
      obtain ⟨g1, g2⟩ := R.errA (Rat.le_trans t2 big)
      exact ⟨g1, t2, g2⟩
  have hS := sum_err (x := fun i => rd u (i : Int)) (t := fun i => val (rd l (i : Int)) * pw (-e)) (rd_U uU) hn us l.length (Nat.le_refl _)
  obtain ⟨fS, hT4, hS⟩ := hS
  obtain ⟨T, hT⟩ : ∃ T, T = sm (fun i => val (rd l (i : Int)) * pw (-e) * (val (rd l (i : Int)) * pw (-e))) l.length := ⟨_, rfl⟩
  simp only [← hT] at hT4 hS
  have T1 : 1 ≤ T := by
    rcases hat with h | ⟨x, hx, hxm⟩
    · exact absurd h c0
    · obtain ⟨k, hk, rfl⟩ := List.getElem_of_mem hx
      have a := sm_ge (g := fun i => val (rd l (i : Int)) * pw (-e) * (val (rd l (i : Int)) * pw (-e))) (fun i => sq_nonneg _) l.length k hk
      rw [← hT] at a
      have b : 1 ≤ rabs (val (rd l (k : Int)) * pw (-e)) := by
        rw [rabs_mul, rabs_val, rabs_of_nonneg (Rat.le_of_lt hp0), rd_at hk, hxm]
        have := Rat.mul_le_mul_of_nonneg_right pe (Rat.le_of_lt hp0)
        rw [pme] at this
        exact this
      have d := sq_mono (show (0 : Rat) ≤ 1 by decide) b
      rw [← rabs_mul, rabs_of_nonneg (sq_nonneg _)] at d
      grind
  have hTx : sm (fun i => val (rd l (i : Int)) * val (rd l (i : Int))) l.length = T * (pw e * pw e) := by
    have e1 : T = sm (fun i => val (rd l (i : Int)) * val (rd l (i : Int)) * (pw (-e) * pw (-e))) l.length := by
      rw [hT]; exact sm_congr _ fun i _ => by grind
    rw [e1, sm_mul]
    have : pw (-e) * pw (-e) * (pw e * pw e) = 1 := by
      have e2 : pw (-e) * pw (-e) * (pw e * pw e) = (pw e * pw (-e)) * (pw e * pw (-e)) := by grind
      rw [e2, pme, Rat.mul_one]
    rw [Rat.mul_assoc, this, Rat.mul_one]
  obtain ⟨k0, k1, kup, klo⟩ := kap_ok ⟨l.length, by omega⟩
  simp only at k0 k1 kup klo
  obtain ⟨κ, hκ⟩ : ∃ κ, κ = kap (l.length : Rat) := ⟨_, rfl⟩
  have hSk : rabs (val (dS (fun i => rd u (i : Int)) (fun i => rd u (i : Int)) l.length) - T) ≤ κ * T := by
    refine Rat.le_trans hS ?_
    rw [hκ]
    unfold kap
    have n0 : (0 : Rat) ≤ (l.length : Rat) := by exact_mod_cast Nat.zero_le _
    have w0 : 0 ≤ 20 * (l.length : Rat) * eta := Rat.mul_nonneg (by grind) (Rat.le_of_lt eta_pos)
    have := Rat.mul_le_mul_of_nonneg_left T1 w0
    grind
  have us_ : U (dS (fun i => rd u (i : Int)) (fun i => rd u (i : Int)) l.length) := dS_U (rd_U uU) (rd_U uU) _
  obtain ⟨G, kk⟩ := nrm_dS uU (by omega) u.length 0 (by omega) (by omega) 0
  rw [lu] at kk
  obtain ⟨s, hs⟩ : ∃ s, s = dS (fun i => rd u (i : Int)) (fun i => rd u (i : Int)) l.length := ⟨_, rfl⟩
  rw [← hs] at fS hSk us_ kk
  have κ0 : 0 ≤ κ := by rw [hκ]; exact k0
  have κ1 : κ ≤ 1 / 2 := by rw [hκ]; exact k1
  have T0 : 0 ≤ T := by grind
  have kT : κ * T ≤ 1 / 2 * T := Rat.mul_le_mul_of_nonneg_right κ1 T0
  have vlo : T * (1 - κ) ≤ val s := by unfold rabs at hSk; split at hSk <;> grind
  have vhi : val s ≤ T * (1 + κ) := by unfold rabs at hSk; split at hSk <;> grind
  have v2 : (1 : Rat) / 2 ≤ val s := by grind
  have v3 : val s ≤ 320 := by
    have : (l.length : Rat) ≤ 40 := by exact_mod_cast hn
    grind
  have ns : neg s = false := by
    cases h : neg s
    · rfl
    · exfalso
      have hv : val s = -vm (mag s) := by unfold val; rw [h]; rfl
      have := vm_nonneg (mag_lt (a := s)).1
      grind
  have hv : val s = vm (mag s) := by unfold val; rw [ns]; rfl
  have ms : mag s ≠ 0 := fun h => by have := val_zero_iff.mpr h; grind
  obtain ⟨root, f, es, Rs⟩ := more_Sqrt_ev us_
  have ur := sqrt_U us_ Rs
  have ss : SqX (vm (mag s)) root f := by
    have nn : isNan s = false := by
      have := fS
      unfold fin INF mag at this
      unfold isNan; simp only [decide_eq_false_iff_not]
      unfold mag INF
      omega
    unfold SqrtR at Rs
    rw [if_neg (by rw [nn]; simp), if_neg (by
      intro h
      rcases h with h | h
      · exact ms h
      · rw [h] at fS; revert fS; decide), if_neg (by rw [ns]; simp)] at Rs
    exact Rs
  rw [← hv] at ss
  have big1 : (320 : Rat) ≤ pw 1100 := by decide +kernel
  have small1 : pw (-1100) ≤ (1 : Rat) / 2 := by decide +kernel
  obtain ⟨rI, r0, rlo, rhi⟩ := ss.near (Rat.le_trans small1 v2) (Rat.le_trans v3 big1)
  have rr0 := (ss.flags).2.2.1
  have hI : INF < 9223372036854775808 := by decide
  have mr : mag root = root := by unfold mag; omega
  have nr : neg root = false := by unfold neg; simp only [decide_eq_false_iff_not]; omega
  have vr : val root = vm root := by unfold val; rw [nr, mr]; rfl
  have uq : ulq ≤ 1 / 4 := by decide +kernel
  have ul : ulp ≤ 1 / 4 := by decide +kernel
  have uq0 := ulq_pos
  have ul0 := ulp_pos
  have rp : 0 < vm root := by
    have d0 : 0 < (1 - ulq) * (1 - ulq) := Rat.mul_pos (by grind) (by grind)
    have := Rat.mul_pos (a := val s) (by grind) d0
    have ne : vm root ≠ 0 := fun h => by rw [h] at rlo; grind
    grind
  have R := sc_R' (n := e) ur (by omega) (by omega)
  have ec := sc_ev (n := e) ur
  unfold ScaleR at R
  rw [if_neg (by
    intro h
    unfold isNan at h; simp only [decide_eq_true_eq] at h
    rw [mr] at h; unfold INF at rI; unfold INF at h; omega), if_neg (by
    rw [mr]
    intro h
    rcases h with h | h
    · omega
    · rw [h, vm_zero] at rp; exact absurd rp (by decide)), vr] at R
  refine ⟨(sc e root).1, Go.bits .or .u8 c (Go.bits .or .u8 (sc e root).2 (Go.bits .and .u8 1 G)), ?_, sc_U ur, ?_⟩
  · unfold vec_Nrm2.f
    refine Ev.bind ep (Ev.pos rfl (Ev.bind hun ?_))
    rw [lu]
    refine kk e c _ (Ev.succ ?_)
    simp only [vec_Nrm2.l0]
    exact Ev.neg (by omega) (Ev.bind es (Ev.bind ec (Ev.call (show soft_Calc_Note.f c _ _ = some (_, Go.bits .or .u8 c _) from rfl) (Ev.now _))))
  · have pe0 := pw_pos e
    have X0 : 0 < vm root * pw e := Rat.mul_pos rp pe0
    -- the root is neither great nor small
    have r1 : (1 : Rat) / 4 ≤ vm root * vm root := by
      have h : (1 : Rat) / 2 * ((1 - ulq) * (1 - ulq)) ≤ vm root * vm root := Rat.le_trans (Rat.mul_le_mul_of_nonneg_right v2 (sq_nonneg _)) rlo
      have h2 : (1 : Rat) / 4 ≤ (1 : Rat) / 2 * ((1 - ulq) * (1 - ulq)) := by decide +kernel
      grind
    have r2 : vm root * vm root ≤ 400 := by
      have h : val s * ((1 + ulq) * (1 + ulq)) ≤ 320 * ((1 + ulq) * (1 + ulq)) := Rat.mul_le_mul_of_nonneg_right v3 (sq_nonneg _)
      have h2 : (320 : Rat) * ((1 + ulq) * (1 + ulq)) ≤ 400 := by decide +kernel
      grind
    have r3 : (1 : Rat) / 2 ≤ vm root := by
      refine Rat.not_lt.mp fun h => ?_
      have := Rat.mul_lt_mul_of_pos_left h rp
      grind
    have r4 : vm root ≤ 20 := by
      refine Rat.not_lt.mp fun h => ?_
      have a := Rat.mul_lt_mul_of_pos_left h rp
      grind
    have xlo : pw (-1022) ≤ vm root * pw e := by
      have a : pw (-902) ≤ pw e := by
        refine pw_mono (Int.not_lt.mp fun h => ?_)
        have := pw_mono (a := e + 1) (b := -901) (by omega)
        have h2 : 2 * pw (-901) ≤ pw (-900) := pw_lt (by decide)
        have := pw_pos (-901)
        grind
      have b := Rat.mul_le_mul_of_nonneg_right r3 (Rat.le_of_lt pe0)
      have d : pw (-1022) ≤ 1 / 2 * pw (-902) := by decide +kernel
      grind
    have xhi : vm root * pw e ≤ pw 1000 := by
      have a := Rat.mul_le_mul_of_nonneg_right r4 (Rat.le_of_lt pe0)
      have b : 20 * pw 900 ≤ pw 1000 := by decide +kernel
      grind
    have ax : rabs (vm root * pw e) = vm root * pw e := rabs_of_nonneg (Rat.le_of_lt X0)
    obtain ⟨g1, g2⟩ := R.errR (.inr (by rw [ax]; exact xlo)) (by rw [ax]; exact xhi)
    refine ⟨g1, ?_, ?_⟩
    · have := R.sign
      rw [if_neg (by intro h; rw [h] at X0; exact absurd X0 (by decide))] at this
      rw [this]
      simp only [decide_eq_false_iff_not]
      intro h
      grind
    have P0 : 0 < pw e * pw e := Rat.mul_pos pe0 pe0
    rw [rabs_of_nonneg (Rat.le_of_lt X0)] at g2
    generalize val (sc e root).1 = w at g2 ⊢
    have b1 : vm root * pw e * (1 - ulp) ≤ w := by unfold rabs at g2; split at g2 <;> grind
    have b2 : w ≤ vm root * pw e * (1 + ulp) := by unfold rabs at g2; split at g2 <;> grind
    have Xl : 0 ≤ vm root * pw e * (1 - ulp) := Rat.mul_nonneg (Rat.le_of_lt X0) (by grind)
    have c1 := sq_mono Xl b1
    have c2 := sq_mono (Rat.le_trans Xl b1) b2
    have TP : 0 ≤ T * (pw e * pw e) := Rat.mul_nonneg T0 (Rat.le_of_lt P0)
    have l1 := Rat.mul_le_mul_of_nonneg_right vlo (Rat.le_of_lt P0)
    have l2 := Rat.mul_le_mul_of_nonneg_right vhi (Rat.le_of_lt P0)
    have l3 := Rat.mul_le_mul_of_nonneg_right rlo (Rat.le_of_lt P0)
    have l4 := Rat.mul_le_mul_of_nonneg_right rhi (Rat.le_of_lt P0)
    rw [hTx]
    rw [← hκ] at kup klo
    have m1 := Rat.mul_le_mul_of_nonneg_left kup TP
    have m2 := Rat.mul_le_mul_of_nonneg_left klo TP
    refine ⟨Rat.le_trans m2 ?_, Rat.le_trans ?_ m1⟩
    · refine near_mul' (v := val s * (pw e * pw e)) (q := vm root * vm root * (pw e * pw e)) TP (by grind) (by grind) (by grind) (sq_nonneg _) (sq_nonneg _)
    · refine near_mul (v := val s * (pw e * pw e)) (q := vm root * vm root * (pw e * pw e)) TP (by grind) (by grind) (by grind) (sq_nonneg _) (sq_nonneg _)
/-- A whole number of the least ones. -/
theorem val_grid {a : Int} (fa : fin a) : ∃ k : Int, val a = (k : Rat) * pw (-1074) := by
  obtain ⟨e1, e2⟩ := fin_expo fa
  have e : vm (mag a) = ((mant (mag a) * p2 (expo (mag a) + 1074) : Int) : Rat) * pw (-1074) := by
    unfold vm
    have : pw (expo (mag a)) = ((p2 (expo (mag a) + 1074) : Int) : Rat) * pw (-1074) := by
      rw [← pw_p2 (by omega), ← pw_add]; congr 1; omega
    rw [this]; push_cast; grind
  unfold val
  split
  · exact ⟨-(mant (mag a) * p2 (expo (mag a) + 1074)), by rw [e]; push_cast; grind⟩
  · exact ⟨_, e⟩
/-- A sum is near, however small. -/
theorem add_rel {a b : Int} (ha : U a) (hb : U b) (fa : fin a) (fb : fin b) (h : rabs (val a + val b) ≤ pw 1000) : fin (av a b) ∧ rabs (val (av a b) - (val a + val b)) ≤ ulp * rabs (val a + val b) := by
  have R := av_Rd ha hb fa fb
  by_cases c : pw (-1022) ≤ rabs (val a + val b)
  · exact R.errR (.inr c) h
  by_cases c0 : val a + val b = 0
  · exact R.errR (.inl c0) h
  obtain ⟨k1, e1⟩ := val_grid fa
  obtain ⟨k2, e2⟩ := val_grid fb
  have e : val a + val b = ((k1 + k2 : Int) : Rat) * pw (-1074) := by rw [e1, e2]; push_cast; grind
  have p := pw_pos (-1074)
  -- so many of the least ones
  obtain ⟨D, hD, hDe⟩ : ∃ D : Int, 0 < D ∧ rabs (val a + val b) = (D : Rat) * pw (-1074) := by
    have hk : (k1 + k2) ≠ 0 := fun h => c0 (by rw [e, h]; simp)
    by_cases s : k1 + k2 < 0
    · refine ⟨-(k1 + k2), by omega, ?_⟩
      rw [e]
      have hs : ((k1 + k2 : Int) : Rat) < 0 := by exact_mod_cast s
      have := Rat.mul_lt_mul_of_pos_right hs p
      unfold rabs
      rw [if_pos (by grind)]
      push_cast; grind
    · refine ⟨k1 + k2, by omega, ?_⟩
      rw [e]
      have hs : (0 : Rat) ≤ ((k1 + k2 : Int) : Rat) := by exact_mod_cast (by omega : 0 ≤ k1 + k2)
      exact rabs_of_nonneg (Rat.mul_nonneg hs (Rat.le_of_lt p))
  have hD2 : D ≤ 9007199254740992 := by
    have hlt : (D : Rat) * pw (-1074) < pw (-1022) := by rw [← hDe]; exact Rat.not_le.mp c
    have e52 : pw (-1022) = ((4503599627370496 : Int) : Rat) * pw (-1074) := by
      have := pw_addNat (-1074) 52
      rw [show (-1074 : Int) + (52 : Nat) = -1022 from by decide] at this
      rw [this]; rfl
    rw [e52] at hlt
    have := mul_pw_lt.mp hlt
    omega
  obtain ⟨m, m0, hm⟩ := repr_exists (D := D) (G := -1074) hD hD2 (by decide)
  obtain ⟨m', h1, er⟩ := R.num c0
  have mI : m < INF := by
    obtain ⟨hI', _⟩ := h1.errA h
    have hle : vm m ≤ vm 4503599627370496 := by
      rw [hm, ← hDe]
      have : vm 4503599627370496 = pw (-1022) := by decide +kernel
      rw [this]; exact Rat.le_of_lt (Rat.not_le.mp c)
    have := (vm_le_iff (by omega) (by decide)).mp hle
    have : (4503599627370496 : Int) < INF := by decide
    omega
  have s := RB.self m0 mI
  rw [hm, ← hDe] at s
  obtain ⟨e3, _⟩ := h1.unique s
  have hI : INF < 9223372036854775808 := by decide
  subst e3
  have v : val (av a b) = val a + val b := by
    rw [er, val_signed (by omega) (by omega), hm, ← hDe]
    by_cases s : val a + val b < 0
    · rw [if_pos (by simpa using s)]; unfold rabs; rw [if_pos s]; grind
    · rw [if_neg (by simpa using s)]; unfold rabs; rw [if_neg s]
  refine ⟨by unfold fin; rw [er, mag_signed (by omega) (by omega)]; exact mI, ?_⟩
  rw [v]
  have : val a + val b - (val a + val b) = 0 := by grind
  rw [this, rabs_zero]
  exact Rat.mul_nonneg (Rat.le_of_lt ulp_pos) (rabs_nonneg _)
theorem sub_rel {a b : Int} (ha : U a) (hb : U b) (fa : fin a) (fb : fin b) (h : rabs (val a - val b) ≤ pw 1000) : fin (av a (flip b)) ∧ rabs (val (av a (flip b)) - (val a - val b)) ≤ ulp * rabs (val a - val b) := by
  have e : val a - val b = val a + val (flip b) := by rw [val_flip hb]; grind
  rw [e] at h ⊢
  exact add_rel ha (U_flip hb) fa (by unfold fin; rw [mag_flip hb]; exact fb) h
theorem mul_rel {a b : Int} (ha : U a) (hb : U b) (fa : fin a) (fb : fin b) (h : Ok (val a * val b)) : fin (mv a b) ∧ rabs (val (mv a b) - val a * val b) ≤ ulp * rabs (val a * val b) := (mv_Rd ha hb fa fb).errR h.1 h.2
theorem mul_abs {a b : Int} (ha : U a) (hb : U b) (fa : fin a) (fb : fin b) (h : rabs (val a * val b) ≤ pw 1000) : fin (mv a b) ∧ rabs (val (mv a b) - val a * val b) ≤ ulp * rabs (val a * val b) + eta := (mv_Rd ha hb fa fb).errA h
theorem not_inf' {a : Int} (h : fin a) : ¬ mag a = INF := by unfold fin at h; omega
theorem div_Rd {a b : Int} (ha : U a) (hb : U b) (fa : fin a) (fb : fin b) (h0 : val b ≠ 0) : Rd (val a / val b) (neg a != neg b) (dP a b).1 (dP a b).2 := by
  have h := dP_R ha hb
  have m0 : mag b ≠ 0 := fun e => h0 (val_zero_iff.mpr e)
  unfold DivR at h
  have hz : divBad a b = false := by unfold divBad; simp [not_inf' fa, not_inf' fb, m0]
  rw [if_neg (by rw [fin_nan fa, fin_nan fb]; decide), if_neg (by rw [hz]; decide), if_neg (not_inf' fa), if_neg (not_inf' fb), if_neg m0] at h
  exact h
theorem div_rel {a b : Int} (ha : U a) (hb : U b) (fa : fin a) (fb : fin b) (h0 : val b ≠ 0) (h : Ok (val a / val b)) : fin (dP a b).1 ∧ rabs (val (dP a b).1 - val a / val b) ≤ ulp * rabs (val a / val b) := (div_Rd ha hb fa fb h0).errR h.1 h.2
/-- A root. -/
noncomputable def sP (a : Int) : Int × Int := resOf (fun k => more_Sqrt.f k a)
theorem sP_ev {a : Int} (ha : U a) : Ev (fun k => more_Sqrt.f k a) (sP a) := by
  obtain ⟨r, f, ev, R⟩ := more_Sqrt_ev ha
  exact Ev.resE ev
theorem sP_R {a : Int} (ha : U a) : SqrtR a (sP a).1 (sP a).2 := by
  obtain ⟨r, f, ev, R⟩ := more_Sqrt_ev ha
  rw [Ev.det (sP_ev ha) ev]
  exact R
theorem sqrt_rel {a : Int} (ha : U a) (fa : fin a) (h : 0 < val a) : U (sP a).1 ∧ fin (sP a).1 ∧ 0 < val (sP a).1 ∧ val a * ((1 - ulq) * (1 - ulq)) ≤ val (sP a).1 * val (sP a).1 ∧ val (sP a).1 * val (sP a).1 ≤ val a * ((1 + ulq) * (1 + ulq)) := by
  have R := sP_R ha
  have ur := sqrt_U ha R
  have ns : neg a = false := by
    cases h2 : neg a
    · rfl
    · exfalso
      have hv : val a = -vm (mag a) := by unfold val; rw [h2]; rfl
      have := vm_nonneg (mag_lt (a := a)).1
      grind
  have hv : val a = vm (mag a) := by unfold val; rw [ns]; rfl
  have ms : mag a ≠ 0 := fun h2 => by have := val_zero_iff.mpr h2; grind
  unfold SqrtR at R
  rw [if_neg (by rw [fin_nan fa]; decide), if_neg (by
      intro h2
      rcases h2 with h2 | h2
      · exact ms h2
      · rw [h2] at fa; revert fa; decide), if_neg (by rw [ns]; simp)] at R
  rw [← hv] at R
  have lo : pw (-1100) ≤ val a := by
    obtain ⟨e1, e2⟩ := fin_expo fa
    rw [hv]
    have mp := mant_pos (m := mag a) (by have := (mag_lt (a := a)).1; omega)
    unfold vm
    have h1 : (1 : Rat) ≤ ((mant (mag a) : Int) : Rat) := by exact_mod_cast mp
    have h2 := Rat.mul_le_mul_of_nonneg_right h1 (Rat.le_of_lt (pw_pos (expo (mag a))))
    have h3 := pw_mono (a := -1100) (b := expo (mag a)) (by omega)
    grind
  have hi : val a ≤ pw 1100 := by
    rw [hv]
    have := vm_mono (mag_lt (a := a)).1 (Int.le_of_lt fa)
    have h2 : vm INF ≤ pw 1100 := by decide +kernel
    exact Rat.le_trans this h2
  obtain ⟨rI, r0, rlo, rhi⟩ := R.near lo hi
  have rr0 := (R.flags).2.2.1
  have hI : INF < 9223372036854775808 := by decide
  have mr : mag (sP a).1 = (sP a).1 := by unfold mag; omega
  have nr : neg (sP a).1 = false := by unfold neg; simp only [decide_eq_false_iff_not]; omega
  have vr : val (sP a).1 = vm (sP a).1 := by unfold val; rw [nr, mr]; rfl
  rw [vr]
  refine ⟨ur, by unfold fin; rw [mr]; exact rI, ?_, rlo, rhi⟩
  have d0 : 0 < (1 - ulq) * (1 - ulq) := by decide +kernel
  have := Rat.mul_pos h d0
  have ne : vm (sP a).1 ≠ 0 := fun h => by rw [h] at rlo; grind
  grind
/-- A hypotenuse. -/
theorem hyp_rel {a b : Int} (ha : U a) (hb : U b) (fa : fin a) (fb : fin b) (hlo : pw (-900) ≤ rabs (val a) ∨ pw (-900) ≤ rabs (val b)) (h1 : rabs (val a) ≤ pw 900) (h2 : rabs (val b) ≤ pw 900) :
    ∃ r F, Ev (fun K => plane_Hypot.f K a b) (r, F) ∧ U r ∧ fin r ∧ 0 ≤ val r ∧ (val a * val a + val b * val b) * ((1 - 6 * ulp) * (1 - 6 * ulp)) ≤ val r * val r ∧ val r * val r ≤ (val a * val a + val b * val b) * ((1 + 6 * ulp) * (1 + 6 * ulp)) := by
  obtain ⟨r, F, ev, ur, fr, nr, lo, hi⟩ := nrm_rel (l := [a, b]) (c := 0) (fun x hx => by
    rcases List.mem_cons.mp hx with rfl | hx
    · exact ⟨ha, fa⟩
    · rcases List.mem_cons.mp hx with rfl | hx
      · exact ⟨hb, fb⟩
      · cases hx) (by simp) (by
    rcases hlo with h | h
    · exact ⟨a, by simp, h⟩
    · exact ⟨b, by simp, h⟩) (fun x hx => by
    rcases List.mem_cons.mp hx with rfl | hx
    · exact h1
    · rcases List.mem_cons.mp hx with rfl | hx
      · exact h2
      · cases hx)
  have es : sm (fun i => val (rd [a, b] (i : Int)) * val (rd [a, b] (i : Int))) [a, b].length = val a * val a + val b * val b := by
    show 0 + val (rd [a, b] ((0 : Nat) : Int)) * val (rd [a, b] ((0 : Nat) : Int)) + val (rd [a, b] ((1 : Nat) : Int)) * val (rd [a, b] ((1 : Nat) : Int)) = _
    have e0 : rd [a, b] ((0 : Nat) : Int) = a := rfl
    have e1 : rd [a, b] ((1 : Nat) : Int) = b := rfl
    rw [e0, e1]; grind
  rw [es] at lo hi
  have e6 : ((([a, b] : List Int).length : Int) + 4 : Int) = 6 := rfl
  rw [e6] at lo hi
  have vr : 0 ≤ val r := val_pos nr
  have inf : ∀ x : Int, U x → fin x → ¬ Go.bits .andNot .u64 x 9223372036854775808 = 9218868437227405312 := fun x ux fx h => by
    rw [u64_top ux.1 ux.2] at h
    unfold fin mag INF at fx
    omega
  refine ⟨r, F, ?_, ur, fr, vr, lo, hi⟩
  unfold plane_Hypot.f
  exact Ev.neg (inf a ha fa) (Ev.neg (inf b hb fb) (Ev.bind ev (Ev.now _)))
end Gim
