/- Texts of this claim, one behind the other: what the functions answer. -/
import Derived.Test.YtejkoahgmnejkaaDoorTx0
import Derived.Test.YtejkoahgmnejkaaDoorRx0
set_option linter.constructorNameAsVariable false
set_option linter.unusedSimpArgs false
set_option linter.unusedVariables false
set_option linter.unusedSectionVars false
namespace Gim
open Go Go.RowKit Go.Proofs.YtejkoahgmnejkaaDoorW.PrintWords Go.Proofs.YtejkoahgmnejkaaDoorW.PrintLast Go.Proofs.YtejkoahgmnejkaaDoorW.PrintMore Go.Proofs.YtejkoahgmnejkaaDoor.F
set_option linter.unusedVariables false

theorem add_nan {a b : Int} (ha : U a) (hb : U b) (h : (isNan a || isNan b) = true) : Ev (fun k => soft_Add.f k a b) (QNAN, nanF a b) := by
  unfold soft_Add.f
  refine Ev.bind (soft_nan2 ha hb) ?_
  exact Ev.pos h (Ev.now _)
theorem add_kinds {a b : Int} (ha : U a) (hb : U b) (h : (isNan a || isNan b) = false) {r : Int × Int}
    (hk : Ev (fun k => soft_Add.j0 k a b (kindOf (mag a)) (kindOf (mag b)) (if kindOf (mag a) = 4 then (if kindOf (mag b) = 4 then a != b else false) else false)) r) : Ev (fun k => soft_Add.f k a b) r := by
  unfold soft_Add.f
  refine Ev.bind (soft_nan2 ha hb) (Ev.neg (by simp only [h]; decide) (Ev.bind (word_Kind_ev ha) (Ev.bind (word_Kind_ev hb) ?_)))
  rw [kind_mag, kind_mag]
  by_cases c1 : kindOf (mag a) = 4
  · by_cases c2 : kindOf (mag b) = 4
    · rw [if_pos c1, if_pos c2] at hk; exact Ev.pos c1 (Ev.pos c2 hk)
    · rw [if_pos c1, if_neg c2] at hk; exact Ev.pos c1 (Ev.neg c2 hk)
  · rw [if_neg c1] at hk; exact Ev.neg c1 hk
theorem add_inf2 {a b : Int} (ha : U a) (hb : U b) (h1 : mag a = INF) (h2 : mag b = INF) (h3 : a ≠ b) : Ev (fun k => soft_Add.f k a b) (QNAN, 16) := by
  refine add_kinds ha hb (by unfold isNan; rw [h1, h2]; decide) ?_
  rw [if_pos (kind_inf.mpr h1), if_pos (kind_inf.mpr h2)]
  refine Ev.succ ?_
  simp only [soft_Add.j0]
  exact Ev.pos (by simp [h3]) (Ev.now _)
theorem add_infa {a b : Int} (ha : U a) (hb : U b) (h1 : mag a = INF) (h2 : isNan b = false) (h3 : a = b ∨ mag b ≠ INF) : Ev (fun k => soft_Add.f k a b) (a, 0) := by
  refine add_kinds ha hb (by rw [h2]; unfold isNan; rw [h1]; decide) ?_
  refine Ev.succ ?_
  simp only [soft_Add.j0]
  refine Ev.neg ?_ (Ev.pos (kind_inf.mpr h1) (Ev.now _))
  rw [if_pos (kind_inf.mpr h1)]
  rcases h3 with h3 | h3
  · subst h3; simp
  · rw [if_neg (fun h => h3 (kind_inf.mp h))]; decide
theorem add_infb {a b : Int} (ha : U a) (hb : U b) (h1 : fin a) (h2 : mag b = INF) : Ev (fun k => soft_Add.f k a b) (b, 0) := by
  have hn : kindOf (mag a) ≠ 4 := fun h => by have := kind_inf.mp h; unfold fin at h1; omega
  refine add_kinds ha hb (by rw [fin_nan h1]; unfold isNan; rw [h2]; decide) ?_
  refine Ev.succ ?_
  simp only [soft_Add.j0]
  rw [if_neg hn]
  exact Ev.neg (by decide) (Ev.neg hn (Ev.pos (kind_inf.mpr h2) (Ev.now _)))

theorem wide_Sub_eq {h l h' l' : Int} (hh : U h) (hl : U l) (hh' : U h') (hl' : U l') (hle : wv h' l' ≤ wv h l) : ∃ a b, wide_Wide_Sub.f h l h' l' = some (a, b, false) ∧ U a ∧ U b ∧ wv a b = wv h l - wv h' l' := by
  obtain ⟨x0, x1⟩ := hh; obtain ⟨x2, x3⟩ := hl; obtain ⟨x4, x5⟩ := hh'; obtain ⟨x6, x7⟩ := hl'
  unfold wide_Wide_Sub.f bits_Sub64.f
  rw [if_pos ⟨x2, x6, x7, by decide, by decide⟩]
  simp only [Option.bind_some]
  unfold wv at hle
  by_cases c : l < l' + 0
  · rw [if_pos c, if_pos ⟨x0, x4, x5, by decide, by decide⟩]
    simp only [Option.bind_some]
    refine ⟨_, _, congrArg some (Prod.ext rfl (Prod.ext rfl ?_)), ⟨by omega, by omega⟩, ⟨by omega, by omega⟩, ?_⟩
    · rw [if_neg (by omega)]; rfl
    · unfold wv; omega
  · rw [if_neg c, if_pos ⟨x0, x4, x5, by decide, by decide⟩]
    simp only [Option.bind_some]
    refine ⟨_, _, congrArg some (Prod.ext rfl (Prod.ext rfl ?_)), ⟨by omega, by omega⟩, ⟨by omega, by omega⟩, ?_⟩
    · rw [if_neg (by omega)]; rfl
    · unfold wv; omega
theorem add_j2 {a b : Int} (ha : U a) (hb : U b) (fa : fin a) (fb : fin b) (za : 0 < mag a) (zb : 0 < mag b) (hle : mag b ≤ mag a) :
    ∃ r f, Ev (fun k => soft_Add.j2 k a b) (r, f) ∧ Rd (val a + val b) (neg a && neg b) r f := by
  have pa := word_Parts_ev ha za fa
  have pb := word_Parts_ev hb zb fb
  obtain ⟨ea1, ea2⟩ := fin_expo fa
  obtain ⟨eb1, eb2⟩ := fin_expo fb
  have hex : expo (mag b) ≤ expo (mag a) := expo_mono (by omega) hle
  have ma := mant_pos za
  have ma' := mant_lt (m := mag a)
  have mga := mant_ge (m := mag a) (by omega)
  have mb := mant_pos zb
  have mb' := mant_lt (m := mag b)
  have va : vm (mag a) = (mant (mag a) : Rat) * pw (expo (mag a)) := rfl
  have vb : vm (mag b) = (mant (mag b) : Rat) * pw (expo (mag b)) := rfl
  have hvle : vm (mag b) ≤ vm (mag a) := vm_mono (by omega) hle
  generalize hM : mant (mag a) = M at *
  generalize hN : mant (mag b) = N at *
  generalize hE : expo (mag a) = E at *
  generalize hG : expo (mag b) = G at *
  have emag : ∀ c : Int, c % 9223372036854775808 = mag c := fun _ => rfl
  rw [emag, hM, hE] at pa
  rw [emag, hN, hG] at pb
  have UM : U M := ⟨by omega, by omega⟩
  have UN : U N := ⟨by omega, by omega⟩
  obtain ⟨qh, ql, evq, uq1, uq2, eq⟩ := wide_Right_ev (h := N) (l := 0) (n := E - G) UN U_0 (by omega)
  have wN : wv N 0 = N * 18446744073709551616 := by unfold wv; omega
  have wM : wv M 0 = M * 18446744073709551616 := by unfold wv; omega
  rw [wN] at evq eq
  have hP := p2_pos (E - G)
  have dm := Int.mul_ediv_add_emod (N * 18446744073709551616) (p2 (E - G))
  have r0 := Int.emod_nonneg (N * 18446744073709551616) (Int.ne_of_gt hP)
  have r1 := Int.emod_lt_of_pos (N * 18446744073709551616) hP
  have q0 : 0 ≤ N * 18446744073709551616 / p2 (E - G) := Int.ediv_nonneg (by omega) (Int.le_of_lt hP)
  have q1 : N * 18446744073709551616 / p2 (E - G) ≤ N * 18446744073709551616 := Int.ediv_le_self _ (by omega)
  generalize hQ : N * 18446744073709551616 / p2 (E - G) = Q at *
  generalize hR : N * 18446744073709551616 % p2 (E - G) = R at *
  -- in units of 2^(E - 64)
  have hu := pw_pos (E - 64)
  have uE : pw E = (18446744073709551616 : Int) * pw (E - 64) := by
    rw [show (18446744073709551616 : Int) = p2 64 from rfl, ← pw_p2 (by decide), ← pw_add]; congr 1; omega
  have uG : (N : Rat) * pw G * (p2 (E - G) : Rat) = (N * 18446744073709551616 : Int) * pw (E - 64) := by
    have : pw G * (p2 (E - G) : Rat) = pw E := by rw [← pw_p2 (by omega), ← pw_add]; congr 1; omega
    rw [Rat.mul_assoc, this, uE]; push_cast; grind
  have hPr : (0 : Rat) < (p2 (E - G) : Rat) := by exact_mod_cast hP
  -- the lesser one lies between Q and Q + 1
  have hlow0 : R = 0 → (N : Rat) * pw G = (Q : Rat) * pw (E - 64) := by
    intro h
    have h1 : (N * 18446744073709551616 : Int) = p2 (E - G) * Q := by omega
    rw [h1] at uG
    have h2 : (p2 (E - G) : Rat) * ((N : Rat) * pw G) = (p2 (E - G) : Rat) * ((Q : Rat) * pw (E - 64)) := by push_cast at uG; grind
    exact Rat.le_antisymm (Rat.le_of_mul_le_mul_left (by rw [h2]; exact Rat.le_refl) hPr) (Rat.le_of_mul_le_mul_left (by rw [h2]; exact Rat.le_refl) hPr)
  have hlow1 : R ≠ 0 → (Q : Rat) * pw (E - 64) < (N : Rat) * pw G ∧ (N : Rat) * pw G < (Q + 1 : Int) * pw (E - 64) := by
    intro h
    constructor
    · refine Rat.lt_of_mul_lt_mul_left (c := (p2 (E - G) : Rat)) ?_ (Rat.le_of_lt hPr)
      have h1 : (p2 (E - G) * Q : Int) * pw (E - 64) < (N * 18446744073709551616 : Int) * pw (E - 64) := mul_pw_lt.mpr (by omega)
      rw [← uG] at h1
      push_cast at h1; grind
    · refine Rat.lt_of_mul_lt_mul_left (c := (p2 (E - G) : Rat)) ?_ (Rat.le_of_lt hPr)
      have e2 : p2 (E - G) * (Q + 1) = p2 (E - G) * Q + p2 (E - G) := by grind
      have h1 : (N * 18446744073709551616 : Int) * pw (E - 64) < (p2 (E - G) * (Q + 1) : Int) * pw (E - 64) := mul_pw_lt.mpr (by omega)
      rw [← uG] at h1
      push_cast at h1 ⊢; grind
  have hbig : R ≠ 0 → 4503599627370496 ≤ M ∧ Q < 9007199254740992 := by
    intro h
    have hlt : 64 < E - G := by
      refine Decidable.byContradiction fun hc => h ?_
      have : (18446744073709551616 : Int) = p2 (64 - (E - G)) * p2 (E - G) := by rw [← p2_64, ← p2_add (by omega) (by omega)]; congr 1; omega
      rw [← hR, this, ← Int.mul_assoc]
      exact Int.mul_emod_left _ _
    refine ⟨by omega, ?_⟩
    rw [← hQ]
    apply Int.ediv_lt_of_lt_mul hP
    have h64 : 18446744073709551616 ≤ p2 (E - G) := by rw [← p2_64]; exact p2_le (by omega)
    have := Int.mul_le_mul_of_nonneg_left h64 (show (0 : Int) ≤ 9007199254740992 by decide)
    omega
  refine Exists.elim (?_ : ∃ rf : Int × Int, Ev (fun k => soft_Add.j2 k a b) rf ∧ Rd (val a + val b) (neg a && neg b) rf.1 rf.2) (fun rf h => ⟨rf.1, rf.2, h⟩)
  have aM : (M : Rat) * pw E = (M * 18446744073709551616 : Int) * pw (E - 64) := by rw [uE]; push_cast; grind
  -- the head of j2
  have start : ∀ rf : Int × Int, Ev (fun k => if (neg a == neg b) = true then ((wide_Wide_Add.f M 0 qh ql).bind fun bt189 => ((word_Neg.f a).bind fun t193 => ((round_Round.f k t193 bt189.1 bt189.2.1 (E - 64) (decide (R ≠ 0))).bind fun bt194 => (some (bt194.1, bt194.2)))))
      else (if decide (R ≠ 0) = true then ((wide_Wide_Add.f qh ql 0 1).bind fun bt196 => (soft_Add.j3 k a E (decide (R ≠ 0)) M 0 bt196.1 bt196.2.1)) else (soft_Add.j3 k a E (decide (R ≠ 0)) M 0 qh ql))) rf → Ev (fun k => soft_Add.j2 k a b) rf := by
    intro rf h
    refine Ev.succ ?_
    simp only [soft_Add.j2]
    refine Ev.bind pa (Ev.bind pb (Ev.call (wl64 (by omega) (by omega)) (Ev.call (wl64 (by omega) (by omega)) ?_)))
    dsimp only
    rw [w64 (x := E - G) (by omega) (by omega), w64 (x := E - 64) (by omega) (by omega)]
    refine Ev.bind evq (Ev.call (word_Neg_eq ha) (Ev.call (word_Neg_eq hb) ?_))
    refine Ev.same (fun k => ?_) h
    by_cases c : R ≠ 0
    · rw [decide_eq_true c]; rfl
    · rw [decide_eq_false c]; rfl
  by_cases hs : neg a = neg b
  · -- like signs
    obtain ⟨sh, sl, es, us1, us2, ev⟩ := wide_Add_eq UM U_0 uq1 uq2
    rw [wM, eq] at ev es
    have evs : wv sh sl = M * 18446744073709551616 + Q := by rw [ev]; exact Int.emod_eq_of_lt (by omega) (by omega)
    have hx : rabs (val a + val b) = vm (mag a) + vm (mag b) := by
      have := vm_pos za; have := vm_pos zb
      rw [val_eq a, val_eq b, ← hs]
      unfold rabs
      cases neg a <;> simp <;> grind
    have hne : val a + val b ≠ 0 := by
      have := vm_pos za; have := vm_pos zb
      intro h
      rw [h] at hx
      have : rabs 0 = 0 := rfl
      grind
    have hsg : decide (val a + val b < 0) = neg a := by
      have := vm_pos za; have := vm_pos zb
      rw [val_eq a, val_eq b, ← hs]
      cases neg a <;> simp <;> grind
    have hblen : 54 ≤ blen (M * 18446744073709551616 + Q) := by
      obtain ⟨b1, b2, b3⟩ := blen_pos (x := M * 18446744073709551616 + Q) (by omega)
      refine Decidable.byContradiction fun hc => ?_
      have := p2_le (show blen (M * 18446744073709551616 + Q) ≤ 53 from by omega)
      have e53 : p2 53 = 9007199254740992 := by decide
      omega
    obtain ⟨m, f, er, rb⟩ := round_Round_ev (neg a) us1 us2 (E := E - 64) (by omega) (by omega) (decide (R ≠ 0)) (x := vm (mag a) + vm (mag b)) (by omega)
      (by intro h; have h : R = 0 := by simpa using h
          rw [va, vb, hlow0 h, aM, evs]; push_cast; grind)
      (by intro h; have h : R ≠ 0 := by simpa using h
          refine ⟨?_, by rw [evs]; exact hblen⟩
          obtain ⟨l1, l2⟩ := hlow1 h
          rw [va, vb, aM, evs]
          push_cast at l2 ⊢
          constructor <;> grind)
    refine ⟨(signed (neg a) m, f), start _ (Ev.pos (by simp [hs]) (Ev.call es (Ev.call (word_Neg_eq ha) ?_))), ⟨fun h => absurd h hne, fun _ => ⟨m, by rw [hx]; exact rb, by rw [hsg]⟩⟩⟩
    dsimp only
    exact Ev.bind er (Ev.now _)
  · -- unlike signs
    have hz : (neg a && neg b) = false := by revert hs; cases neg a <;> cases neg b <;> simp
    have hx : rabs (val a + val b) = vm (mag a) - vm (mag b) := by
      have := vm_pos za; have := vm_pos zb
      rw [val_eq a, val_eq b]
      unfold rabs
      revert hs
      cases neg a <;> cases neg b <;> simp <;> grind
    have hsg : val a + val b ≠ 0 → decide (val a + val b < 0) = neg a := by
      have := vm_pos za; have := vm_pos zb
      rw [val_eq a, val_eq b]
      revert hs
      cases neg a <;> cases neg b <;> simp <;> grind
    have tail : ∀ (sh sl : Int), U sh → U sl → ∀ low : Bool, low = decide (R ≠ 0) → wv sh sl = M * 18446744073709551616 - (if R = 0 then Q else Q + 1) → ¬ (wv sh sl = 0 ∧ low = false) →
        ∃ rf : Int × Int, Ev (fun k => soft_Add.j4 k a E low false sh sl) rf ∧ Rd (val a + val b) (neg a && neg b) rf.1 rf.2 := by
      intro sh sl us1 us2 low hl evs hnz
      have hpos : 0 < wv sh sl := by
        have := (wv_range us1 us2).1
        by_cases c : R = 0
        · have hl' : low = false := by rw [hl]; simp [c]
          have : wv sh sl ≠ 0 := fun h => hnz ⟨h, hl'⟩
          omega
        · obtain ⟨b1, b2⟩ := hbig c
          rw [if_neg c] at evs
          omega
      have hblen : R ≠ 0 → 54 ≤ blen (wv sh sl) := by
        intro c
        obtain ⟨b1, b2⟩ := hbig c
        rw [if_neg c] at evs
        obtain ⟨c1, c2, c3⟩ := blen_pos hpos
        refine Decidable.byContradiction fun hc => ?_
        have := p2_le (show blen (wv sh sl) ≤ 53 from by omega)
        have e53 : p2 53 = 9007199254740992 := by decide
        omega
      obtain ⟨m, f, er, rb⟩ := round_Round_ev (neg a) us1 us2 (E := E - 64) (by omega) (by omega) low (x := vm (mag a) - vm (mag b)) hpos
        (by intro h; have h : R = 0 := by rw [hl] at h; simpa using h
            rw [if_pos h] at evs
            rw [va, vb, hlow0 h, aM, evs]; push_cast; grind)
        (by intro h; have h : R ≠ 0 := by rw [hl] at h; simpa using h
            refine ⟨?_, hblen h⟩
            rw [if_neg h] at evs
            obtain ⟨l1, l2⟩ := hlow1 h
            rw [va, vb, aM, evs]
            push_cast at l2 ⊢
            constructor <;> grind)
      have hxne : val a + val b ≠ 0 := by
        intro h
        have h1 : rabs (val a + val b) = 0 := by rw [h]; rfl
        obtain ⟨q, n, hq, _⟩ := rb.ex
        have := hq.pos
        rw [hx] at h1
        grind
      refine ⟨(signed (neg a) m, f), Ev.succ ?_, ⟨fun h => absurd h hxne, fun _ => ⟨m, by rw [hx]; exact rb, by rw [hsg hxne]⟩⟩⟩
      simp only [soft_Add.j4]
      refine Ev.neg (by decide) (Ev.call (word_Neg_eq ha) ?_)
      rw [w64 (x := E - 64) (by omega) (by omega)]
      exact Ev.bind er (Ev.now _)
    -- the lesser one isn't greater
    have hQM : (if R = 0 then Q else Q + 1) ≤ M * 18446744073709551616 := by
      by_cases c : R = 0
      · rw [if_pos c]
        have : (Q : Rat) * pw (E - 64) ≤ (M * 18446744073709551616 : Int) * pw (E - 64) := by rw [← hlow0 c, ← aM, ← va, ← vb]; exact hvle
        exact mul_pw_le.mp this
      · rw [if_neg c]
        have := hbig c
        omega
    have j3 : ∀ (qh' ql' : Int), U qh' → U ql' → wv qh' ql' = (if R = 0 then Q else Q + 1) →
        ∃ rf : Int × Int, Ev (fun k => soft_Add.j3 k a E (decide (R ≠ 0)) M 0 qh' ql') rf ∧ Rd (val a + val b) (neg a && neg b) rf.1 rf.2 := by
      intro qh' ql' u1 u2 e
      obtain ⟨sh, sl, es, us1, us2, evs⟩ := wide_Sub_eq UM U_0 u1 u2 (by rw [wM, e]; exact hQM)
      rw [wM, e] at evs
      by_cases hz0 : wv sh sl = 0
      · by_cases c : R = 0
        · -- nothing is left
          refine ⟨(0, 0), Ev.succ ?_, ⟨fun _ => ⟨by rw [hz]; rfl, rfl⟩, fun h => absurd ?_ h⟩⟩
          · simp only [soft_Add.j3]
            refine Ev.call es (Ev.call (wide_Zero_eq us1 us2) ?_)
            rw [decide_eq_true hz0]
            refine Ev.pos rfl (Ev.succ ?_)
            simp only [soft_Add.j4]
            exact Ev.pos (by simp [c]) (Ev.now _)
          · have h1 : rabs (val a + val b) = 0 := by
              rw [hx, va, vb, hlow0 c, aM]
              rw [if_pos c, hz0] at evs
              have : M * 18446744073709551616 = Q := by omega
              rw [this]; grind
            unfold rabs at h1; grind
        · obtain ⟨rf, ev, rd⟩ := tail sh sl us1 us2 _ rfl evs (by simp [c])
          refine ⟨rf, Ev.succ ?_, rd⟩
          simp only [soft_Add.j3]
          refine Ev.call es (Ev.call (wide_Zero_eq us1 us2) ?_)
          rw [decide_eq_true hz0]
          refine Ev.pos rfl ?_
          rw [show (!decide (R ≠ 0)) = false from by simp [c]]
          exact ev
      · obtain ⟨rf, ev, rd⟩ := tail sh sl us1 us2 _ rfl evs (fun h => hz0 h.1)
        refine ⟨rf, Ev.succ ?_, rd⟩
        simp only [soft_Add.j3]
        refine Ev.call es (Ev.call (wide_Zero_eq us1 us2) ?_)
        rw [decide_eq_false hz0]
        exact Ev.neg (by decide) ev
    by_cases c : R = 0
    · obtain ⟨rf, ev, rd⟩ := j3 qh ql uq1 uq2 (by rw [if_pos c]; exact eq)
      refine ⟨rf, start _ (Ev.neg (by simp [hs]) (Ev.neg (by simp [c]) ev)), rd⟩
    · obtain ⟨ah, al, ea, ua1, ua2, eva⟩ := wide_Add_eq uq1 uq2 U_0 U_1
      have e1 : wv 0 1 = 1 := by unfold wv; omega
      rw [eq, e1, Int.emod_eq_of_lt (by omega) (by omega)] at eva
      obtain ⟨rf, ev, rd⟩ := j3 ah al ua1 ua2 (by rw [if_neg c]; exact eva)
      refine ⟨rf, start _ (Ev.neg (by simp [hs]) (Ev.pos (by simp [c]) (Ev.call ea ?_))), rd⟩
      exact ev

theorem zero_two {a : Int} (ha : U a) (h : mag a = 0) : a = if neg a then 9223372036854775808 else 0 := by
  obtain ⟨h0, h1⟩ := ha
  unfold mag at h
  unfold neg
  by_cases c : 9223372036854775808 ≤ a
  · rw [decide_eq_true c]; simp; omega
  · rw [decide_eq_false c]; simp; omega
/-- ADD: of two numbers. -/
theorem add_fin {a b : Int} (ha : U a) (hb : U b) (fa : fin a) (fb : fin b) : ∃ r f, Ev (fun k => soft_Add.f k a b) (r, f) ∧ Rd (val a + val b) (neg a && neg b) r f := by
  have ka : kindOf (mag a) ≠ 4 := fun h => by have := kind_inf.mp h; unfold fin at fa; omega
  have kb : kindOf (mag b) ≠ 4 := fun h => by have := kind_inf.mp h; unfold fin at fb; omega
  have step : ∀ rf : Int × Int, Ev (fun k => soft_Add.j1 k a b (kindOf (mag a)) (kindOf (mag b)) (if kindOf (mag a) = 1 then (kindOf (mag b) == 1) else false)) rf → Ev (fun k => soft_Add.f k a b) rf := by
    intro rf h
    refine add_kinds ha hb (by rw [fin_nan fa, fin_nan fb]; rfl) ?_
    rw [if_neg ka]
    refine Ev.succ ?_
    simp only [soft_Add.j0]
    refine Ev.neg (by decide) (Ev.neg ka (Ev.neg kb ?_))
    by_cases c : kindOf (mag a) = 1
    · rw [if_pos c] at h; exact Ev.pos c h
    · rw [if_neg c] at h; exact Ev.neg c h
  by_cases za : mag a = 0
  · have k1 := kind_zero.mpr za
    by_cases zb : mag b = 0
    · have k2 := kind_zero.mpr zb
      refine ⟨bits .and .u64 a b, 0, step _ (Ev.succ ?_), ?_⟩
      · simp only [soft_Add.j1]
        exact Ev.pos (by rw [if_pos k1, k2]; rfl) (Ev.now _)
      · have h0 : val a + val b = 0 := by rw [val_zero_iff.mpr za, val_zero_iff.mpr zb]; grind
        refine ⟨fun _ => ⟨?_, rfl⟩, fun h => absurd h0 h⟩
        have e1 := zero_two ha za
        have e2 := zero_two hb zb
        rw [e1, e2]
        cases neg a <;> cases neg b <;> decide
    · have k2 : ¬ kindOf (mag b) = 1 := fun h => zb (kind_zero.mp h)
      refine ⟨b, 0, step _ (Ev.succ ?_), ?_⟩
      · simp only [soft_Add.j1]
        exact Ev.neg (by rw [if_pos k1]; simpa using k2) (Ev.pos k1 (Ev.now _))
      · rw [val_zero_iff.mpr za, show (0 : Rat) + val b = val b from by grind]
        exact Rd.self hb fb zb _
  · have k1 : ¬ kindOf (mag a) = 1 := fun h => za (kind_zero.mp h)
    by_cases zb : mag b = 0
    · have k2 := kind_zero.mpr zb
      refine ⟨a, 0, step _ (Ev.succ ?_), ?_⟩
      · simp only [soft_Add.j1]
        exact Ev.neg (by rw [if_neg k1]; decide) (Ev.neg k1 (Ev.pos k2 (Ev.now _)))
      · rw [val_zero_iff.mpr zb, show val a + (0 : Rat) = val a from by grind]
        exact Rd.self ha fa za _
    · have k2 : ¬ kindOf (mag b) = 1 := fun h => zb (kind_zero.mp h)
      have m0 := (mag_lt (a := a)).1
      have m1 := (mag_lt (a := b)).1
      by_cases hlt : mag a < mag b
      · obtain ⟨r, f, ev, rd⟩ := add_j2 hb ha fb fa (by omega) (by omega) (by omega)
        refine ⟨r, f, step _ (Ev.succ ?_), by rw [show val a + val b = val b + val a from by grind, Bool.and_comm]; exact rd⟩
        simp only [soft_Add.j1]
        exact Ev.neg (by rw [if_neg k1]; decide) (Ev.neg k1 (Ev.neg k2 (Ev.call (word_Abs_eq ha) (Ev.call (word_Abs_eq hb) (Ev.pos hlt ev)))))
      · obtain ⟨r, f, ev, rd⟩ := add_j2 ha hb fa fb (by omega) (by omega) (by omega)
        refine ⟨r, f, step _ (Ev.succ ?_), rd⟩
        simp only [soft_Add.j1]
        exact Ev.neg (by rw [if_neg k1]; decide) (Ev.neg k1 (Ev.neg k2 (Ev.call (word_Abs_eq ha) (Ev.call (word_Abs_eq hb) (Ev.neg hlt ev)))))

def AddR (a b r f : Int) : Prop :=
  if (isNan a || isNan b) = true then r = QNAN ∧ f = nanF a b
  else if mag a = INF then (if mag b = INF ∧ a ≠ b then r = QNAN ∧ f = 16 else r = a ∧ f = 0)
  else if mag b = INF then r = b ∧ f = 0
  else Rd (val a + val b) (neg a && neg b) r f
theorem add_ev {a b : Int} (ha : U a) (hb : U b) : ∃ r f, Ev (fun k => soft_Add.f k a b) (r, f) ∧ AddR a b r f := by
  unfold AddR
  by_cases h : (isNan a || isNan b) = true
  · exact ⟨_, _, add_nan ha hb h, by rw [if_pos h]; exact ⟨rfl, rfl⟩⟩
  · obtain ⟨h0, na, nb⟩ := nan_or h
    by_cases ia : mag a = INF
    · by_cases ib : mag b = INF ∧ a ≠ b
      · exact ⟨_, _, add_inf2 ha hb ia ib.1 ib.2, by rw [if_neg h, if_pos ia, if_pos ib]; exact ⟨rfl, rfl⟩⟩
      · refine ⟨_, _, add_infa ha hb ia nb ?_, by rw [if_neg h, if_pos ia, if_neg ib]; exact ⟨rfl, rfl⟩⟩
        by_cases c : a = b
        · exact .inl c
        · exact .inr (fun hh => ib ⟨hh, c⟩)
    · by_cases ib : mag b = INF
      · exact ⟨_, _, add_infb ha hb (fin_of na ia) ib, by rw [if_neg h, if_neg ia, if_pos ib]; exact ⟨rfl, rfl⟩⟩
      · obtain ⟨r, f, ev, rd⟩ := add_fin ha hb (fin_of na ia) (fin_of nb ib)
        exact ⟨r, f, ev, by rw [if_neg h, if_neg ia, if_neg ib]; exact rd⟩
theorem AddR.unique {a b r f r' f' : Int} (h : AddR a b r f) (h' : AddR a b r' f') : r = r' ∧ f = f' := by
  unfold AddR at h h'
  by_cases c1 : (isNan a || isNan b) = true
  · rw [if_pos c1] at h h'; omega
  · rw [if_neg c1] at h h'
    by_cases c2 : mag a = INF
    · rw [if_pos c2] at h h'
      by_cases c3 : mag b = INF ∧ a ≠ b
      · rw [if_pos c3] at h h'; omega
      · rw [if_neg c3] at h h'; omega
    · rw [if_neg c2] at h h'
      by_cases c3 : mag b = INF
      · rw [if_pos c3] at h h'; omega
      · rw [if_neg c3] at h h'; exact h.unique h'
theorem AddR.fin {a b r f : Int} (fa : fin a) (fb : fin b) : AddR a b r f ↔ Rd (val a + val b) (neg a && neg b) r f := by
  unfold AddR; rw [fin_nan fa, fin_nan fb, if_neg (by decide), if_neg (not_inf fa), if_neg (not_inf fb)]
theorem AddR.flags {a b r f : Int} (h : AddR a b r f) : 0 ≤ f ∧ f ≤ 16 := by
  have := nanF_le a b
  unfold AddR at h
  split at h
  · omega
  · split at h
    · split at h <;> omega
    · split at h
      · omega
      · exact h.flags
theorem AddR.range {a b r f : Int} (ha : U a) (hb : U b) (h : AddR a b r f) : U r := by
  unfold AddR at h
  have q : U QNAN := by unfold QNAN U; decide
  split at h
  · rw [h.1]; exact q
  · split at h
    · split at h
      · rw [h.1]; exact q
      · rw [h.1]; exact ha
    · split at h
      · rw [h.1]; exact hb
      · exact h.range.1


theorem bits_Mul64_eq {a b : Int} (ha : U a) (hb : U b) : bits_Mul64.f a b = some (a * b / 18446744073709551616, a * b % 18446744073709551616) := by
  have ha' := ha
  have hb' := hb
  obtain ⟨a0, a1⟩ := ha
  obtain ⟨b0, b1⟩ := hb
  unfold bits_Mul64.f
  rw [u64_and32 a0 a1, u64_and32 b0 b1]
  have hA : 0 ≤ a / 4294967296 ∧ a / 4294967296 ≤ 4294967295 := by omega
  have hB : 0 ≤ b / 4294967296 ∧ b / 4294967296 ≤ 4294967295 := by omega
  have hC : 0 ≤ a % 4294967296 ∧ a % 4294967296 ≤ 4294967295 := by omega
  have hD : 0 ≤ b % 4294967296 ∧ b % 4294967296 ≤ 4294967295 := by omega
  have e : a * b = (a / 4294967296 * (b / 4294967296)) * 18446744073709551616 + (a / 4294967296 * (b % 4294967296) + a % 4294967296 * (b / 4294967296)) * 4294967296 + a % 4294967296 * (b % 4294967296) := by
    have e1 : a = a / 4294967296 * 4294967296 + a % 4294967296 := by omega
    have e2 : b = b / 4294967296 * 4294967296 + b % 4294967296 := by omega
    generalize a / 4294967296 = x at *
    generalize a % 4294967296 = y at *
    generalize b / 4294967296 = z at *
    generalize b % 4294967296 = w at *
    subst e1 e2
    grind
  obtain ⟨p0, p1⟩ := mul_bound hA.1 hB.1 hA.2 hB.2
  obtain ⟨q0, q1⟩ := mul_bound hA.1 hD.1 hA.2 hD.2
  obtain ⟨r0, r1⟩ := mul_bound hC.1 hB.1 hC.2 hB.2
  obtain ⟨s0, s1⟩ := mul_bound hC.1 hD.1 hC.2 hD.2
  have hm : a * b < 340282366920938463463374607431768211456 := by
    have := (mul_bound a0 b0 (show a ≤ 18446744073709551615 by omega) (show b ≤ 18446744073709551615 by omega)).2
    omega
  have hm0 : 0 ≤ a * b := Int.mul_nonneg a0 b0
  rw [wu64_mod (a * b)]
  generalize a * b = X at *
  generalize a / 4294967296 * (b / 4294967296) = P at *
  generalize a / 4294967296 * (b % 4294967296) = Q at *
  generalize a % 4294967296 * (b / 4294967296) = R at *
  generalize a % 4294967296 * (b % 4294967296) = S at *
  rw [wu64 (x := S) (by omega) (by omega), wu64 (x := Q) (by omega) (by omega), wu64 (x := Q + S / 4294967296) (by omega) (by omega), u64_and32 (by omega) (by omega),
    wu64 (x := R) (by omega) (by omega), wu64 (x := P) (by omega) (by omega), wu64 (x := P + (Q + S / 4294967296) / 4294967296) (by omega) (by omega),
    wu64 (x := (Q + S / 4294967296) % 4294967296 + R) (by omega) (by omega), wu64 (by omega) (by omega)]
  congr 2
  omega
theorem wide_Mul_eq {a b : Int} (ha : U a) (hb : U b) : ∃ h l, wide_Mul.f a b = some (h, l) ∧ U h ∧ U l ∧ wv h l = a * b := by
  unfold wide_Mul.f
  rw [bits_Mul64_eq ha hb]
  obtain ⟨a0, a1⟩ := ha
  obtain ⟨b0, b1⟩ := hb
  have hm : a * b < 340282366920938463463374607431768211456 := by
    have := (mul_bound a0 b0 (show a ≤ 18446744073709551615 by omega) (show b ≤ 18446744073709551615 by omega)).2
    omega
  have hm0 : 0 ≤ a * b := Int.mul_nonneg a0 b0
  simp only [Option.bind_some]
  generalize a * b = X at *
  exact ⟨_, _, rfl, ⟨by omega, by omega⟩, ⟨by omega, by omega⟩, by unfold wv; omega⟩

theorem mul_nan {a b : Int} (ha : U a) (hb : U b) (h : (isNan a || isNan b) = true) : Ev (fun k => soft_Mul.f k a b) (QNAN, nanF a b) := by
  unfold soft_Mul.f
  refine Ev.bind (soft_nan2 ha hb) ?_
  exact Ev.pos h (Ev.now _)
/-- Infinity times zero? -/
def infZero (a b : Int) : Bool := (decide (mag a = INF) && decide (mag b = 0)) || (decide (mag a = 0) && decide (mag b = INF))
theorem mul_kinds {a b : Int} (ha : U a) (hb : U b) (h : (isNan a || isNan b) = false) {r : Int × Int}
    (hk : Ev (fun k => soft_Mul.j0 k a b (neg a != neg b) (kindOf (mag a)) (kindOf (mag b)) (infZero a b)) r) : Ev (fun k => soft_Mul.f k a b) r := by
  unfold soft_Mul.f
  refine Ev.bind (soft_nan2 ha hb) (Ev.neg (by simp only [h]; decide) (Ev.call (word_Neg_eq ha) (Ev.call (word_Neg_eq hb) (Ev.bind (word_Kind_ev ha) (Ev.bind (word_Kind_ev hb) ?_)))))
  rw [kind_mag, kind_mag, neg_def, neg_def]
  have kz : ∀ c : Int, (kindOf (mag c) == 4) = decide (mag c = INF) := fun c => by
    rw [Bool.eq_iff_iff]; simp only [beq_iff_eq, decide_eq_true_eq]; exact kind_inf
  have I0 : (INF : Int) ≠ 0 := by decide
  rw [kz]
  by_cases c1 : kindOf (mag a) = 4
  · have m1 := kind_inf.mp c1
    have n1 : ¬ kindOf (mag a) = 1 := by rw [c1]; decide
    by_cases c2 : kindOf (mag b) = 1
    · have m2 := kind_zero.mp c2
      have e : infZero a b = true := by unfold infZero; rw [m1, m2]; decide
      rw [e] at hk
      exact Ev.pos c1 (Ev.pos c2 hk)
    · have m2 : mag b ≠ 0 := fun h => c2 (kind_zero.mpr h)
      have e : infZero a b = false := by unfold infZero; rw [m1]; simp [m2, I0]
      rw [e] at hk
      exact Ev.pos c1 (Ev.neg c2 (Ev.neg n1 hk))
  · have m1 : mag a ≠ INF := fun h => c1 (kind_inf.mpr h)
    by_cases c2 : kindOf (mag a) = 1
    · have m2 := kind_zero.mp c2
      have e : infZero a b = decide (mag b = INF) := by unfold infZero; rw [m2]; simp [Ne.symm I0]
      rw [e] at hk
      exact Ev.neg c1 (Ev.pos c2 hk)
    · have m2 : mag a ≠ 0 := fun h => c2 (kind_zero.mpr h)
      have e : infZero a b = false := by unfold infZero; simp [m1, m2]
      rw [e] at hk
      exact Ev.neg c1 (Ev.neg c2 hk)
theorem mul_infzero {a b : Int} (ha : U a) (hb : U b) (h : infZero a b = true) : Ev (fun k => soft_Mul.f k a b) (QNAN, 16) := by
  refine mul_kinds ha hb ?_ ?_
  · unfold infZero at h
    have h0 : isNan a = false ∧ isNan b = false := by
      unfold isNan INF at *
      simp at h ⊢
      omega
    rw [h0.1, h0.2]; rfl
  · refine Ev.succ ?_
    simp only [soft_Mul.j0]
    exact Ev.pos h (Ev.now _)
theorem mul_inf {a b : Int} (ha : U a) (hb : U b) (h0 : (isNan a || isNan b) = false) (h1 : mag a = INF ∨ mag b = INF) (h2 : infZero a b = false) : Ev (fun k => soft_Mul.f k a b) (signed (neg a != neg b) INF, 0) := by
  refine mul_kinds ha hb h0 (Ev.succ ?_)
  simp only [soft_Mul.j0]
  refine Ev.neg (by rw [h2]; decide) ?_
  by_cases c : kindOf (mag a) = 4
  · refine Ev.pos c (Ev.succ ?_)
    simp only [soft_Mul.j1]
    exact Ev.pos trivial (Ev.call (make_inf _) (Ev.now _))
  · refine Ev.neg c (Ev.succ ?_)
    simp only [soft_Mul.j1]
    exact Ev.pos (beq_iff_eq.mpr (kind_inf.mpr (by rcases h1 with h | h; exact absurd (kind_inf.mpr h) c; exact h))) (Ev.call (make_inf _) (Ev.now _))
/-- MUL: of two numbers. -/
theorem mul_fin {a b : Int} (ha : U a) (hb : U b) (fa : fin a) (fb : fin b) : ∃ r f, Ev (fun k => soft_Mul.f k a b) (r, f) ∧ Rd (val a * val b) (neg a != neg b) r f := by
  have ka : kindOf (mag a) ≠ 4 := fun h => by have := kind_inf.mp h; unfold fin at fa; omega
  have kb : kindOf (mag b) ≠ 4 := fun h => by have := kind_inf.mp h; unfold fin at fb; omega
  have iz : infZero a b = false := by
    have h1 : mag a ≠ INF := fun h => ka (kind_inf.mpr h)
    have h2 : mag b ≠ INF := fun h => kb (kind_inf.mpr h)
    unfold infZero; simp [h1, h2]
  obtain ⟨M, E, pa, m0, m1, e0, e1, va, za⟩ := Parts_fin ha fa
  obtain ⟨N, G, pb, n0, n1, g0, g1, vb, zb⟩ := Parts_fin hb fb
  obtain ⟨h, l, ew, u1, u2, ev⟩ := wide_Mul_eq (a := M) (b := N) ⟨m0, by omega⟩ ⟨n0, by omega⟩
  have hx : rabs (val a * val b) = ((M * N : Int) : Rat) * pw (E + G) := by
    have e : rabs (val a * val b) = vm (mag a) * vm (mag b) := by
      have p1 := vm_nonneg (mag_lt (a := a)).1
      have p2 := vm_nonneg (mag_lt (a := b)).1
      have p3 := Rat.mul_nonneg p1 p2
      rw [val_eq a, val_eq b]
      unfold rabs
      cases neg a <;> cases neg b <;> simp <;> grind
    rw [e, va, vb, pw_add]; push_cast; grind
  have start : ∀ rf : Int × Int, Ev (fun k => round_Round.f k (neg a != neg b) h l (E + G) false) rf → Ev (fun k => soft_Mul.f k a b) rf := by
    intro rf hr
    refine mul_kinds ha hb (by rw [fin_nan fa, fin_nan fb]; rfl) (Ev.succ ?_)
    simp only [soft_Mul.j0]
    refine Ev.neg (by rw [iz]; decide) (Ev.neg ka (Ev.succ ?_))
    simp only [soft_Mul.j1]
    refine Ev.neg (by simpa using kb) (Ev.bind pa (Ev.bind pb (Ev.call ew ?_)))
    dsimp only
    rw [w64 (x := E + G) (by omega) (by omega)]
    exact Ev.bind hr (Ev.now _)
  by_cases z : M * N = 0
  · rw [z] at ev hx
    have hl := wv_inj u1 u2 U_0 U_0 (by rw [ev]; rfl)
    obtain ⟨rfl, rfl⟩ := hl
    refine ⟨_, _, start _ (round_Round_zero _ _), ⟨fun _ => ⟨rfl, rfl⟩, fun hne => absurd ?_ hne⟩⟩
    have : rabs (val a * val b) = 0 := by rw [hx]; grind
    unfold rabs at this; grind
  · have hpos : 0 < M * N := by have := Int.mul_nonneg m0 n0; omega
    obtain ⟨m, f, er, rb⟩ := round_Round_ev (neg a != neg b) u1 u2 (E := E + G) (by omega) (by omega) false (x := rabs (val a * val b)) (by rw [ev]; exact hpos)
      (fun _ => by rw [ev]; exact hx) (fun h => by cases h)
    have hne : val a * val b ≠ 0 := by
      intro h0
      have h1 : rabs (val a * val b) = 0 := by rw [h0]; rfl
      rw [hx] at h1
      have : (0 : Int) * pw (E + G) < ((M * N : Int) : Rat) * pw (E + G) := mul_pw_lt.mpr hpos
      rw [h1] at this
      grind
    refine ⟨_, _, start _ er, ⟨fun h0 => absurd h0 hne, fun _ => ⟨m, rb, ?_⟩⟩⟩
    congr 1
    have p1 : 0 < vm (mag a) := by
      have : mag a ≠ 0 := fun hz => by rw [za.mpr hz] at hpos; omega
      exact vm_pos (by have := (mag_lt (a := a)).1; omega)
    have p2 : 0 < vm (mag b) := by
      have : mag b ≠ 0 := fun hz => by rw [zb.mpr hz] at hpos; omega
      exact vm_pos (by have := (mag_lt (a := b)).1; omega)
    have p3 := Rat.mul_pos p1 p2
    rw [val_eq a, val_eq b]
    cases neg a <;> cases neg b <;> simp <;> grind
def MulR (a b r f : Int) : Prop :=
  if (isNan a || isNan b) = true then r = QNAN ∧ f = nanF a b
  else if infZero a b = true then r = QNAN ∧ f = 16
  else if mag a = INF ∨ mag b = INF then r = signed (neg a != neg b) INF ∧ f = 0
  else Rd (val a * val b) (neg a != neg b) r f
theorem mul_ev {a b : Int} (ha : U a) (hb : U b) : ∃ r f, Ev (fun k => soft_Mul.f k a b) (r, f) ∧ MulR a b r f := by
  unfold MulR
  by_cases h : (isNan a || isNan b) = true
  · exact ⟨_, _, mul_nan ha hb h, by rw [if_pos h]; exact ⟨rfl, rfl⟩⟩
  · obtain ⟨h0, na, nb⟩ := nan_or h
    by_cases iz : infZero a b = true
    · exact ⟨_, _, mul_infzero ha hb iz, by rw [if_neg h, if_pos iz]; exact ⟨rfl, rfl⟩⟩
    · by_cases i : mag a = INF ∨ mag b = INF
      · exact ⟨_, _, mul_inf ha hb h0 i (by simpa using iz), by rw [if_neg h, if_neg iz, if_pos i]; exact ⟨rfl, rfl⟩⟩
      · obtain ⟨r, f, ev, rd⟩ := mul_fin ha hb (fin_of na (fun h => i (.inl h))) (fin_of nb (fun h => i (.inr h)))
        exact ⟨r, f, ev, by rw [if_neg h, if_neg iz, if_neg i]; exact rd⟩
theorem MulR.unique {a b r f r' f' : Int} (h : MulR a b r f) (h' : MulR a b r' f') : r = r' ∧ f = f' := by
  unfold MulR at h h'
  by_cases c1 : (isNan a || isNan b) = true
  · rw [if_pos c1] at h h'; omega
  · rw [if_neg c1] at h h'
    by_cases c2 : infZero a b = true
    · rw [if_pos c2] at h h'; omega
    · rw [if_neg c2] at h h'
      by_cases c3 : mag a = INF ∨ mag b = INF
      · rw [if_pos c3] at h h'; omega
      · rw [if_neg c3] at h h'; exact h.unique h'
theorem MulR.fin {a b r f : Int} (fa : fin a) (fb : fin b) : MulR a b r f ↔ Rd (val a * val b) (neg a != neg b) r f := by
  have : infZero a b = false := by unfold infZero; simp [not_inf fa, not_inf fb]
  unfold MulR; rw [fin_nan fa, fin_nan fb, this, if_neg (by decide), if_neg (by decide), if_neg (by rintro (h | h); exact not_inf fa h; exact not_inf fb h)]
theorem MulR.flags {a b r f : Int} (h : MulR a b r f) : 0 ≤ f ∧ f ≤ 16 := by
  have := nanF_le a b
  unfold MulR at h
  split at h
  · omega
  · split at h
    · omega
    · split at h
      · omega
      · exact h.flags
theorem MulR.range {a b r f : Int} (h : MulR a b r f) : U r := by
  unfold MulR at h
  have q : U QNAN := by unfold QNAN U; decide
  split at h
  · rw [h.1]; exact q
  · split at h
    · rw [h.1]; exact q
    · split at h
      · rw [h.1]; exact U_signed INF_lt.1 INF_lt.2
      · exact h.range.1
end Gim
namespace Gim
open Go Go.RowKit Go.Proofs.YtejkoahgmnejkaaDoorW.PrintWords Go.Proofs.YtejkoahgmnejkaaDoorW.PrintLast Go.Proofs.YtejkoahgmnejkaaDoorW.PrintMore
set_option linter.unusedVariables false

/-- What is answered from some number of rounds on, if anything is. -/
noncomputable def resOf {α : Type} [Inhabited α] (g : Nat → Option α) : α := open Classical in if h : ∃ r, Ev g r then Classical.choose h else default
theorem Ev.resE {α : Type} [Inhabited α] {g : Nat → Option α} {r : α} (h : Ev g r) : Ev g (resOf g) := by
  unfold resOf
  rw [dif_pos ⟨r, h⟩]
  exact Classical.choose_spec (p := fun r => Ev g r) ⟨r, h⟩
end Gim
namespace Gim
open Go Go.RowKit Go.Proofs.YtejkoahgmnejkaaDoorW.PrintWords Go.Proofs.YtejkoahgmnejkaaDoorW.PrintLast Go.Proofs.YtejkoahgmnejkaaDoorW.PrintMore Go.Proofs.YtejkoahgmnejkaaDoor.F
set_option linter.unusedVariables false

/-- Flags as they are remembered: eight bits. -/
def F8 (f : Int) : Prop := 0 ≤ f ∧ f < 256
def B8 (f : Int) : BitVec 8 := BitVec.ofInt 8 f
theorem F8_0 : F8 0 := ⟨by decide, by decide⟩
theorem B8_0 : B8 0 = 0#8 := rfl
theorem or8_eq (x y : Int) : Go.bits .or .u8 x y = ((B8 x ||| B8 y).toNat : Int) := by
  have e : Go.bits .or .u8 x y = IntKind.u8.wrap ((BitVec.ofInt 8 x ||| BitVec.ofInt 8 y).toNat : Int) := rfl
  rw [e]
  unfold B8
  generalize (BitVec.ofInt 8 x ||| BitVec.ofInt 8 y) = v
  have := v.isLt
  simp [IntKind.wrap, IntKind.bits, IntKind.signed]
  omega
theorem F8_or (x y : Int) : F8 (Go.bits .or .u8 x y) := by
  rw [or8_eq]
  have := (B8 x ||| B8 y).isLt
  exact ⟨by omega, by omega⟩
theorem B8_or (x y : Int) : B8 (Go.bits .or .u8 x y) = B8 x ||| B8 y := by
  rw [or8_eq]
  show BitVec.ofInt 8 ((B8 x ||| B8 y).toNat : Int) = _
  rw [BitVec.ofInt_natCast, BitVec.ofNat_toNat, BitVec.setWidth_eq]
theorem F8_ext {x y : Int} (hx : F8 x) (hy : F8 y) (h : B8 x = B8 y) : x = y := by
  have e : ∀ z : Int, F8 z → ((B8 z).toNat : Int) = z := by
    intro z hz
    obtain ⟨n, rfl⟩ := Int.eq_ofNat_of_zero_le hz.1
    have h2 := hz.2
    show ((BitVec.ofInt 8 (n : Int)).toNat : Int) = _
    rw [BitVec.ofInt_natCast, BitVec.toNat_ofNat, Nat.mod_eq_of_lt (by omega)]
  rw [← e x hx, ← e y hy, h]
noncomputable def aP (a b : Int) : Int × Int := resOf (fun k => soft_Add.f k a b)
noncomputable def mP (a b : Int) : Int × Int := resOf (fun k => soft_Mul.f k a b)
noncomputable def av (a b : Int) : Int := (aP a b).1
noncomputable def af (a b : Int) : BitVec 8 := B8 (aP a b).2
noncomputable def mv (a b : Int) : Int := (mP a b).1
theorem aP_ev {a b : Int} (ha : U a) (hb : U b) : Ev (fun k => soft_Add.f k a b) (aP a b) := by
  obtain ⟨r, f, ev, R⟩ := add_ev ha hb
  exact Ev.resE ev
theorem aP_R {a b : Int} (ha : U a) (hb : U b) : AddR a b (aP a b).1 (aP a b).2 := by
  obtain ⟨r, f, ev, R⟩ := add_ev ha hb
  rw [Ev.det (aP_ev ha hb) ev]
  exact R
theorem mP_ev {a b : Int} (ha : U a) (hb : U b) : Ev (fun k => soft_Mul.f k a b) (mP a b) := by
  obtain ⟨r, f, ev, R⟩ := mul_ev ha hb
  exact Ev.resE ev
theorem mP_R {a b : Int} (ha : U a) (hb : U b) : MulR a b (mP a b).1 (mP a b).2 := by
  obtain ⟨r, f, ev, R⟩ := mul_ev ha hb
  rw [Ev.det (mP_ev ha hb) ev]
  exact R
theorem av_U {a b : Int} (ha : U a) (hb : U b) : U (av a b) := (aP_R ha hb).range ha hb
theorem mv_U {a b : Int} (ha : U a) (hb : U b) : U (mv a b) := (mP_R ha hb).range


/-- What a divisor of 64 bits, its highest one set, is made of. -/
structure Norm (y y1 y0 : Int) : Prop where
  eq : y = y1 * 4294967296 + y0
  l1 : 2147483648 ≤ y1
  h1 : y1 < 4294967296
  l0 : 0 ≤ y0
  h0 : y0 < 4294967296

/-- A digit that is guessed is right, or too great. -/
structure Guess (y y1 y0 u d q rh : Int) : Prop where
  u0 : 0 ≤ u
  u1 : u < y
  d0 : 0 ≤ d
  d1 : d < 4294967296
  rh0 : 0 ≤ rh
  rhe : rh = u - q * y1
  q0 : (u * 4294967296 + d) / y ≤ q
  q1 : q ≤ 4294967297

theorem quo_lt {y u d : Int} (hy : 0 < y) (u0 : 0 ≤ u) (u1 : u < y) (d0 : 0 ≤ d) (d1 : d < 4294967296) : 0 ≤ (u * 4294967296 + d) / y ∧ (u * 4294967296 + d) / y < 4294967296 := by
  refine ⟨Int.ediv_nonneg (by omega) (by omega), Int.ediv_lt_of_lt_mul hy (by omega)⟩
theorem guess_first {y y1 y0 u d : Int} (n : Norm y y1 y0) (u0 : 0 ≤ u) (u1 : u < y) (d0 : 0 ≤ d) (d1 : d < 4294967296) : Guess y y1 y0 u d (u / y1) (u - u / y1 * y1) := by
  obtain ⟨e, l1, h1, l0, h0⟩ := n
  have hy1 : 0 < y1 := by omega
  have hy : 0 < y := by omega
  have m := Int.mul_ediv_add_emod u y1
  have r0 := Int.emod_nonneg u (Int.ne_of_gt hy1)
  have c : u / y1 * y1 = y1 * (u / y1) := Int.mul_comm _ _
  refine ⟨u0, u1, d0, d1, by omega, rfl, ?_, ?_⟩
  · -- (u 2^32 + d)/y ≤ (u 2^32 + d)/(y1 2^32) = u/y1
    have h2 : 0 < y1 * 4294967296 := by omega
    have h3 : (u * 4294967296 + d) / (y1 * 4294967296) = u / y1 := by
      rw [Int.mul_comm y1, ← Int.ediv_ediv_of_nonneg (by decide)]
      congr 1
      omega
    rw [← h3]
    have m2 := Int.mul_ediv_add_emod (u * 4294967296 + d) y
    have r2 := Int.emod_nonneg (u * 4294967296 + d) (Int.ne_of_gt hy)
    apply Int.le_ediv_of_mul_le h2
    have q0 := (quo_lt hy u0 u1 d0 d1).1
    have : (u * 4294967296 + d) / y * (y1 * 4294967296) ≤ (u * 4294967296 + d) / y * y := Int.mul_le_mul_of_nonneg_left (by omega) q0
    have c2 : (u * 4294967296 + d) / y * y = y * ((u * 4294967296 + d) / y) := Int.mul_comm _ _
    omega
  · have : u / y1 < 4294967298 := by apply Int.ediv_lt_of_lt_mul hy1; omega
    omega
theorem prod32 {q y0 : Int} (q0 : 0 ≤ q) (q1 : q ≤ 4294967297) (l0 : 0 ≤ y0) (h0 : y0 < 4294967296) : 0 ≤ q * y0 ∧ q * y0 ≤ 18446744073709551615 := by
  have := mul_bound q0 l0 q1 (show y0 ≤ 4294967295 by omega)
  omega
/-- The test: is the digit too great? -/
theorem guess_test {y y1 y0 u d q rh : Int} (n : Norm y y1 y0) (g : Guess y y1 y0 u d q rh) (hr : rh < 4294967296) :
    (q ≥ 4294967296 ∨ q * y0 > 4294967296 * rh + d) ↔ (u * 4294967296 + d) / y < q := by
  obtain ⟨e, l1, h1, l0, h0⟩ := n
  have hy : 0 < y := by omega
  obtain ⟨q2, q3⟩ := quo_lt hy g.u0 g.u1 g.d0 g.d1
  have hq := g.q0
  have e1 : q * y = q * y1 * 4294967296 + q * y0 := by rw [e]; grind
  have e2 : q * y1 = u - rh := by have := g.rhe; omega
  have key : q * y0 > 4294967296 * rh + d ↔ (u * 4294967296 + d) / y < q := by
    rw [Int.ediv_lt_iff_lt_mul hy, e1, e2]
    constructor <;> intro h <;> omega
  constructor
  · rintro (h | h)
    · omega
    · exact key.mp h
  · intro h
    exact .inr (key.mpr h)
theorem guess_next {y y1 y0 u d q rh : Int} (n : Norm y y1 y0) (g : Guess y y1 y0 u d q rh) (h : (u * 4294967296 + d) / y < q) : Guess y y1 y0 u d (q - 1) (rh + y1) := by
  have := n.l1
  have e : (q - 1) * y1 = q * y1 - y1 := by grind
  exact ⟨g.u0, g.u1, g.d0, g.d1, by have := g.rh0; omega, by have := g.rhe; omega, by omega, by have := g.q1; omega⟩
/-- Where the rest is great, the digit is right. -/
theorem guess_done {y y1 y0 u d q rh : Int} (n : Norm y y1 y0) (g : Guess y y1 y0 u d q rh) (hr : 4294967296 ≤ rh) (hq : q ≤ 4294967296) : q = (u * 4294967296 + d) / y := by
  obtain ⟨e, l1, h1, l0, h0⟩ := n
  have hy : 0 < y := by omega
  obtain ⟨q2, q3⟩ := quo_lt hy g.u0 g.u1 g.d0 g.d1
  have hq0 := g.q0
  have e1 : q * y = q * y1 * 4294967296 + q * y0 := by rw [e]; grind
  have e2 : q * y1 = u - rh := by have := g.rhe; omega
  have p := mul_bound (show 0 ≤ q by omega) l0 hq (show y0 ≤ 4294967295 by omega)
  have : q ≤ (u * 4294967296 + d) / y := by
    apply Int.le_ediv_of_mul_le hy
    rw [e1, e2]
    have := g.d0
    omega
  omega

theorem low_digit {y y1 y0 x9 x10 un0 q1 : Int} (n : Norm y y1 y0) {u d : Int} (hd0 : 0 ≤ un0) (hd1 : un0 < 4294967296) (hq0 : 0 ≤ q1) (hq1 : q1 < 4294967296) (u0 : 0 ≤ u) (u1 : u < y) (hy : y < 18446744073709551616) (k : Nat) :
    ∀ q rh, Guess y y1 y0 u un0 q rh → rh < 4294967296 → (q - (u * 4294967296 + un0) / y).toNat ≤ k →
      Ev (fun f => bits_Div64.l1 f y 0 y1 y0 un0 q1 rh u q) (q1 * 4294967296 + (u * 4294967296 + un0) / y, (u * 4294967296 + un0) % y) := by
  have hy0 : 0 < y := by have := n.eq; have := n.l1; have := n.l0; omega
  obtain ⟨t0, t1⟩ := quo_lt hy0 u0 u1 hd0 hd1
  have md := Int.mul_ediv_add_emod (u * 4294967296 + un0) y
  have r0 := Int.emod_nonneg (u * 4294967296 + un0) (Int.ne_of_gt hy0)
  have r1 := Int.emod_lt_of_pos (u * 4294967296 + un0) hy0
  -- the end
  have fin : ∀ q : Int, q = (u * 4294967296 + un0) / y → IntKind.u64.wrap (q1 * 4294967296 + q) = q1 * 4294967296 + (u * 4294967296 + un0) / y ∧
      shr .u64 (IntKind.u64.wrap (IntKind.u64.wrap (IntKind.u64.wrap (u * 4294967296) + un0) - IntKind.u64.wrap (q * y))) 0 = (u * 4294967296 + un0) % y := by
    intro q hq
    refine ⟨by rw [hq]; exact wu64 (by omega) (by omega), ?_⟩
    rw [shr_u64 (by decide) (by decide), p2_0, Int.ediv_one, hq, wu64_mod, wu64_mod, wu64_mod, wu64_mod]
    have c : (u * 4294967296 + un0) / y * y = y * ((u * 4294967296 + un0) / y) := Int.mul_comm _ _
    rw [c]
    generalize y * ((u * 4294967296 + un0) / y) = Z at *
    generalize (u * 4294967296 + un0) % y = R at *
    omega
  induction k with
  | zero =>
    intro q rh g hr hk
    have hq : q = (u * 4294967296 + un0) / y := by have := g.q0; omega
    obtain ⟨f1, f2⟩ := fin q hq
    have ht := guess_test n g hr
    have hno : ¬ (q ≥ 4294967296 ∨ q * y0 > 4294967296 * rh + un0) := fun h => by have := ht.mp h; omega
    refine Ev.succ ?_
    simp only [bits_Div64.l1]
    refine Ev.neg (fun h => hno (.inl h)) (Ev.succ ?_)
    simp only [bits_Div64.j4]
    have p := prod32 (show 0 ≤ q by omega) g.q1 n.l0 n.h0
    have := g.rh0
    rw [wu64 (x := q * y0) (by omega) (by omega), wu64 (x := 4294967296 * rh) (by omega) (by omega), wu64 (x := 4294967296 * rh + un0) (by omega) (by omega),
      decide_eq_false (fun h => hno (.inr h))]
    refine Ev.neg (by decide) (Ev.pos (by decide) ?_)
    rw [wu64 (x := q1 * 4294967296) (by omega) (by omega), f1, f2]
    exact Ev.now _
  | succ k ih =>
    intro q rh g hr hk
    by_cases hq : q = (u * 4294967296 + un0) / y
    · exact ih q rh g hr (by omega)
    · have hlt : (u * 4294967296 + un0) / y < q := by have := g.q0; omega
      have ht := (guess_test n g hr).mpr hlt
      have g' := guess_next n g hlt
      have rh0 := g.rh0
      have l1 := n.l1
      have h1 := n.h1
      have gq1 := g.q1
      -- what the test answers leads on
      have on : Ev (fun f => bits_Div64.j4 f y 0 y1 y0 un0 q1 rh u q true) (q1 * 4294967296 + (u * 4294967296 + un0) / y, (u * 4294967296 + un0) % y) := by
        refine Ev.succ ?_
        simp only [bits_Div64.j4]
        rw [wu64 (x := rh + y1) (by omega) (by omega), wu64 (x := q - 1) (by omega) (by omega)]
        refine Ev.pos trivial ?_
        by_cases hb : rh + y1 ≥ 4294967296
        · have hq' := guess_done n g' hb (by omega)
          obtain ⟨f1, f2⟩ := fin (q - 1) hq'
          refine Ev.pos hb (Ev.pos (by decide) ?_)
          rw [wu64 (x := q1 * 4294967296) (by omega) (by omega), f1, f2]
          exact Ev.now _
        · exact Ev.neg hb (ih (q - 1) (rh + y1) g' (by omega) (by omega))
      refine Ev.succ ?_
      simp only [bits_Div64.l1]
      by_cases hbig : q ≥ 4294967296
      · exact Ev.pos hbig on
      · refine Ev.neg hbig ?_
        have p := prod32 (show 0 ≤ q by omega) g.q1 n.l0 n.h0
        rw [wu64 (x := q * y0) (by omega) (by omega), wu64 (x := 4294967296 * rh) (by omega) (by omega), wu64 (x := 4294967296 * rh + un0) (by omega) (by omega),
          decide_eq_true (by rcases ht with h | h; exact absurd h hbig; exact h)]
        exact on

theorem high_digit {y y1 y0 u un1 un0 : Int} (n : Norm y y1 y0) (hy : y < 18446744073709551616) (u0 : 0 ≤ u) (u1 : u < y) (d0 : 0 ≤ un1) (d1 : un1 < 4294967296) (e0 : 0 ≤ un0) (e1 : un0 < 4294967296) (k : Nat) :
    ∀ q rh, Guess y y1 y0 u un1 q rh → rh < 4294967296 → (q - (u * 4294967296 + un1) / y).toNat ≤ k →
      Ev (fun f => bits_Div64.l0 f y 0 y1 y0 u un1 un0 q rh) ((u * 4294967296 + un1) / y * 4294967296 + ((u * 4294967296 + un1) % y * 4294967296 + un0) / y, ((u * 4294967296 + un1) % y * 4294967296 + un0) % y) := by
  have hy0 : 0 < y := by have := n.eq; have := n.l1; have := n.l0; omega
  obtain ⟨t0, t1⟩ := quo_lt hy0 u0 u1 d0 d1
  have md := Int.mul_ediv_add_emod (u * 4294967296 + un1) y
  have r0 := Int.emod_nonneg (u * 4294967296 + un1) (Int.ne_of_gt hy0)
  have r1 := Int.emod_lt_of_pos (u * 4294967296 + un1) hy0
  have l1 := n.l1
  have h1 := n.h1
  have hy1 : 0 < y1 := by omega
  -- on to the second digit
  have fin : ∀ q : Int, q = (u * 4294967296 + un1) / y → Ev (fun f => bits_Div64.j2 f y 0 y1 y0 u un1 un0 q) ((u * 4294967296 + un1) / y * 4294967296 + ((u * 4294967296 + un1) % y * 4294967296 + un0) / y, ((u * 4294967296 + un1) % y * 4294967296 + un0) % y) := by
    intro q hq
    have eu : IntKind.u64.wrap (IntKind.u64.wrap (IntKind.u64.wrap (u * 4294967296) + un1) - IntKind.u64.wrap (q * y)) = (u * 4294967296 + un1) % y := by
      rw [hq, wu64_mod, wu64_mod, wu64_mod, wu64_mod]
      have c : (u * 4294967296 + un1) / y * y = y * ((u * 4294967296 + un1) / y) := Int.mul_comm _ _
      rw [c]
      generalize y * ((u * 4294967296 + un1) / y) = Z at *
      generalize (u * 4294967296 + un1) % y = R at *
      omega
    refine Ev.succ ?_
    simp only [bits_Div64.j2]
    refine Ev.neg (by omega) ?_
    rw [eu, Int.tdiv_eq_ediv_of_nonneg r0]
    have g := guess_first (u := (u * 4294967296 + un1) % y) (d := un0) n r0 r1 e0 e1
    have gq := g.q1
    have gr := g.rh0
    have m := Int.mul_ediv_add_emod ((u * 4294967296 + un1) % y) y1
    have s0 := Int.emod_nonneg ((u * 4294967296 + un1) % y) (Int.ne_of_gt hy1)
    have s1 := Int.emod_lt_of_pos ((u * 4294967296 + un1) % y) hy1
    have c : (u * 4294967296 + un1) % y / y1 * y1 = y1 * ((u * 4294967296 + un1) % y / y1) := Int.mul_comm _ _
    have qn : 0 ≤ (u * 4294967296 + un1) % y / y1 := Int.ediv_nonneg r0 (by omega)
    have qy := Int.mul_nonneg qn (show 0 ≤ y1 by omega)
    rw [wu64 (x := (u * 4294967296 + un1) % y / y1) qn (by omega), wu64 (x := (u * 4294967296 + un1) % y / y1 * y1) (by omega) (by omega), wu64 (x := (u * 4294967296 + un1) % y - (u * 4294967296 + un1) % y / y1 * y1) (by omega) (by omega)]
    have := low_digit (x9 := 0) (x10 := 0) (q1 := q) n (d := 0) e0 e1 (by omega) (by omega) r0 r1 hy _ _ _ g (by omega) (Nat.le_refl _)
    rw [hq] at this ⊢
    exact this
  induction k with
  | zero =>
    intro q rh g hr hk
    have hq : q = (u * 4294967296 + un1) / y := by have := g.q0; omega
    have ht := guess_test n g hr
    have hno : ¬ (q ≥ 4294967296 ∨ q * y0 > 4294967296 * rh + un1) := fun h => by have := ht.mp h; omega
    refine Ev.succ ?_
    simp only [bits_Div64.l0]
    refine Ev.neg (fun h => hno (.inl h)) (Ev.succ ?_)
    simp only [bits_Div64.j1]
    have p := prod32 (show 0 ≤ q by omega) g.q1 n.l0 n.h0
    have := g.rh0
    rw [wu64 (x := q * y0) (by omega) (by omega), wu64 (x := 4294967296 * rh) (by omega) (by omega), wu64 (x := 4294967296 * rh + un1) (by omega) (by omega),
      decide_eq_false (fun h => hno (.inr h))]
    exact Ev.neg (by decide) (fin q hq)
  | succ k ih =>
    intro q rh g hr hk
    by_cases hq : q = (u * 4294967296 + un1) / y
    · exact ih q rh g hr (by omega)
    · have hlt : (u * 4294967296 + un1) / y < q := by have := g.q0; omega
      have ht := (guess_test n g hr).mpr hlt
      have g' := guess_next n g hlt
      have rh0 := g.rh0
      have gq1 := g.q1
      have on : Ev (fun f => bits_Div64.j1 f y 0 y1 y0 u un1 un0 q rh true) ((u * 4294967296 + un1) / y * 4294967296 + ((u * 4294967296 + un1) % y * 4294967296 + un0) / y, ((u * 4294967296 + un1) % y * 4294967296 + un0) % y) := by
        refine Ev.succ ?_
        simp only [bits_Div64.j1]
        rw [wu64 (x := rh + y1) (by omega) (by omega), wu64 (x := q - 1) (by omega) (by omega)]
        refine Ev.pos trivial ?_
        by_cases hb : rh + y1 ≥ 4294967296
        · exact Ev.pos hb (fin (q - 1) (guess_done n g' hb (by omega)))
        · exact Ev.neg hb (ih (q - 1) (rh + y1) g' (by omega) (by omega))
      refine Ev.succ ?_
      simp only [bits_Div64.l0]
      by_cases hbig : q ≥ 4294967296
      · exact Ev.pos hbig on
      · refine Ev.neg hbig ?_
        have p := prod32 (show 0 ≤ q by omega) g.q1 n.l0 n.h0
        rw [wu64 (x := q * y0) (by omega) (by omega), wu64 (x := 4294967296 * rh) (by omega) (by omega), wu64 (x := 4294967296 * rh + un1) (by omega) (by omega),
          decide_eq_true (by rcases ht with h | h; exact absurd h hbig; exact h)]
        exact on

/-- A quotient of 128 bits by 64, the divisor's highest bit set, nothing in the low word. -/
theorem bits_Div64_ev {u y : Int} (u0 : 0 < u) (u1 : u < y) (y0 : 9223372036854775808 ≤ y) (y1 : y < 18446744073709551616) :
    Ev (fun k => bits_Div64.f k u 0 y) (u * 18446744073709551616 / y, u * 18446744073709551616 % y) := by
  have hy0 : 0 < y := by omega
  have hU : U y := ⟨by omega, y1⟩
  have bl : blen y = 64 := blen_unique (by decide) (by rw [show p2 (64 - 1) = 9223372036854775808 from by decide]; exact y0) (by rw [p2_64]; exact y1)
  have lz : Ev (fun k => bits_LeadingZeros64.f k y) 0 := by
    unfold bits_LeadingZeros64.f
    refine Ev.bind (bits_Len64_ev hU) ?_
    rw [bl, w64 (x := 64 - 64) (by decide) (by decide)]
    exact Ev.now _
  have n : Norm y (y / 4294967296) (y % 4294967296) := ⟨by omega, by omega, by omega, by omega, by omega⟩
  have g := guess_first (u := u) (d := 0) n (by omega) u1 (by decide) (by decide)
  have hq0 : 0 < y / 4294967296 := by omega
  have m := Int.mul_ediv_add_emod u (y / 4294967296)
  have s0 := Int.emod_nonneg u (Int.ne_of_gt hq0)
  have s1 := Int.emod_lt_of_pos u hq0
  have c : u / (y / 4294967296) * (y / 4294967296) = y / 4294967296 * (u / (y / 4294967296)) := Int.mul_comm _ _
  have qn : 0 ≤ u / (y / 4294967296) := Int.ediv_nonneg (by omega) (by omega)
  have qy := Int.mul_nonneg qn (show 0 ≤ y / 4294967296 by omega)
  have gq := g.q1
  have hd := high_digit (un1 := 0) (un0 := 0) n y1 (by omega) u1 (by decide) (by decide) (by decide) (by decide) _ _ _ g (by omega) (Nat.le_refl _)
  -- the two digits are the quotient
  have e : u * 18446744073709551616 / y = (u * 4294967296 + 0) / y * 4294967296 + ((u * 4294967296 + 0) % y * 4294967296 + 0) / y ∧ u * 18446744073709551616 % y = ((u * 4294967296 + 0) % y * 4294967296 + 0) % y := by
    rw [Int.add_zero, Int.add_zero]
    have md := Int.mul_ediv_add_emod (u * 4294967296) y
    have e1 : u * 18446744073709551616 = u * 4294967296 % y * 4294967296 + y * (u * 4294967296 / y * 4294967296) := by
      generalize u * 4294967296 % y = R at *
      generalize u * 4294967296 / y = Q at *
      have : y * (Q * 4294967296) = y * Q * 4294967296 := by grind
      omega
    rw [e1]
    constructor
    · rw [Int.add_mul_ediv_left _ _ (Int.ne_of_gt hy0)]; omega
    · rw [Int.add_mul_emod_self_left]
  rw [e.1, e.2]
  unfold bits_Div64.f
  refine Ev.neg (by omega) (Ev.neg (by omega) (Ev.neg (by omega) (Ev.bind lz ?_)))
  rw [show IntKind.u64.wrap 0 = 0 from by decide, show IntKind.u64.wrap (64 - 0) = 64 from by decide]
  have ey : shl .u64 y 0 = y := by rw [shl_u64 (by decide) (by decide), p2_0]; omega
  have eu : shl .u64 u 0 = u := by rw [shl_u64 (by decide) (by decide), p2_0]; omega
  have e0 : shl .u64 0 0 = 0 := by decide
  have es : shr .u64 0 64 = 0 := by decide
  have eo : bits .or .u64 u 0 = u := by
    have := u64_or 0 (x := u) (y := 0) (by omega) (by simp) (by omega) (by decide) (by decide) (by decide)
    rw [this, Int.add_zero]
  rw [ey, eu, e0, es, eo, u64_and32 (by omega) y1, show bits .and .u64 0 4294967295 = 0 from by decide]
  refine Ev.pos (by decide) (Ev.pos (by decide) (Ev.neg (by omega) ?_))
  rw [Int.tdiv_eq_ediv_of_nonneg (by omega), wu64 (x := u / (y / 4294967296)) qn (by omega), wu64 (x := u / (y / 4294967296) * (y / 4294967296)) (by omega) (by omega), wu64 (x := u - u / (y / 4294967296) * (y / 4294967296)) (by omega) (by omega)]
  exact hd
theorem wide_Div_ev {u y : Int} (u0 : 0 < u) (u1 : u < y) (y0 : 9223372036854775808 ≤ y) (y1 : y < 18446744073709551616) :
    Ev (fun k => wide_Wide_Div.f k u 0 y) (u * 18446744073709551616 / y, u * 18446744073709551616 % y, true) := by
  unfold wide_Wide_Div.f
  exact Ev.neg (by omega) (Ev.bind (bits_Div64_ev u0 u1 y0 y1) (Ev.now _))

theorem div_nan {a b : Int} (ha : U a) (hb : U b) (h : (isNan a || isNan b) = true) : Ev (fun k => soft_Div.f k a b) (QNAN, nanF a b) := by
  unfold soft_Div.f
  refine Ev.bind (soft_nan2 ha hb) ?_
  exact Ev.pos h (Ev.now _)
/-- Infinity by infinity, or zero by zero? -/
def divBad (a b : Int) : Bool := (decide (mag a = INF) && decide (mag b = INF)) || (decide (mag a = 0) && decide (mag b = 0))
theorem div_kinds {a b : Int} (ha : U a) (hb : U b) (h : (isNan a || isNan b) = false) {r : Int × Int}
    (hk : Ev (fun k => soft_Div.j0 k a b (neg a != neg b) (kindOf (mag a)) (kindOf (mag b)) (divBad a b)) r) : Ev (fun k => soft_Div.f k a b) r := by
  unfold soft_Div.f
  refine Ev.bind (soft_nan2 ha hb) (Ev.neg (by simp only [h]; decide) (Ev.call (word_Neg_eq ha) (Ev.call (word_Neg_eq hb) (Ev.bind (word_Kind_ev ha) (Ev.bind (word_Kind_ev hb) ?_)))))
  rw [kind_mag, kind_mag, neg_def, neg_def]
  have kz : ∀ c : Int, (kindOf (mag c) == 1) = decide (mag c = 0) := fun c => by
    rw [Bool.eq_iff_iff]; simp only [beq_iff_eq, decide_eq_true_eq]; exact kind_zero
  have I0 : (INF : Int) ≠ 0 := by decide
  rw [kz]
  by_cases c1 : kindOf (mag a) = 4
  · have m1 := kind_inf.mp c1
    have n1 : ¬ kindOf (mag a) = 1 := by rw [c1]; decide
    by_cases c2 : kindOf (mag b) = 4
    · have m2 := kind_inf.mp c2
      have e : divBad a b = true := by unfold divBad; rw [m1, m2]; decide
      rw [e] at hk
      exact Ev.pos c1 (Ev.pos c2 hk)
    · have m2 : mag b ≠ INF := fun h => c2 (kind_inf.mpr h)
      have e : divBad a b = false := by unfold divBad; rw [m1]; simp [m2, I0]
      rw [e] at hk
      exact Ev.pos c1 (Ev.neg c2 (Ev.neg n1 hk))
  · have m1 : mag a ≠ INF := fun h => c1 (kind_inf.mpr h)
    by_cases c2 : kindOf (mag a) = 1
    · have m2 := kind_zero.mp c2
      have e : divBad a b = decide (mag b = 0) := by unfold divBad; rw [m2]; simp [Ne.symm I0]
      rw [e] at hk
      exact Ev.neg c1 (Ev.pos c2 hk)
    · have m2 : mag a ≠ 0 := fun h => c2 (kind_zero.mpr h)
      have e : divBad a b = false := by unfold divBad; simp [m1, m2]
      rw [e] at hk
      exact Ev.neg c1 (Ev.neg c2 hk)
theorem div_bad {a b : Int} (ha : U a) (hb : U b) (h : divBad a b = true) : Ev (fun k => soft_Div.f k a b) (QNAN, 16) := by
  refine div_kinds ha hb ?_ ?_
  · unfold divBad at h
    have h0 : isNan a = false ∧ isNan b = false := by
      unfold isNan INF at *
      simp at h ⊢
      omega
    rw [h0.1, h0.2]; rfl
  · refine Ev.succ ?_
    simp only [soft_Div.j0]
    exact Ev.pos h (Ev.now _)
theorem div_infa {a b : Int} (ha : U a) (hb : U b) (h1 : mag a = INF) (h2 : fin b) : Ev (fun k => soft_Div.f k a b) (signed (neg a != neg b) INF, 0) := by
  refine div_kinds ha hb (by rw [fin_nan h2]; unfold isNan; rw [h1]; decide) (Ev.succ ?_)
  simp only [soft_Div.j0]
  have hb0 : divBad a b = false := by
    have : mag b ≠ INF := by unfold fin at h2; omega
    unfold divBad; rw [h1]; simp [this]; intro h; exact absurd h (by decide)
  exact Ev.neg (by rw [hb0]; decide) (Ev.pos (kind_inf.mpr h1) (Ev.call (make_inf _) (Ev.now _)))
theorem div_infb {a b : Int} (ha : U a) (hb : U b) (h1 : fin a) (h2 : mag b = INF) : Ev (fun k => soft_Div.f k a b) (signed (neg a != neg b) 0, 0) := by
  have h3 : mag a ≠ INF := by unfold fin at h1; omega
  refine div_kinds ha hb (by rw [fin_nan h1]; unfold isNan; rw [h2]; decide) (Ev.succ ?_)
  simp only [soft_Div.j0]
  have hb0 : divBad a b = false := by
    unfold divBad; rw [h2]; simp [h3]; intro _ h; exact absurd h (by decide)
  refine Ev.neg (by rw [hb0]; decide) (Ev.neg (fun h => h3 (kind_inf.mp h)) (Ev.pos (kind_inf.mpr h2) (Ev.succ ?_)))
  simp only [soft_Div.j1]
  exact Ev.pos trivial (Ev.call (make_zero _) (Ev.now _))
theorem div_fin_start {a b : Int} (ha : U a) (hb : U b) (fa : fin a) (fb : fin b) (h0 : ¬ (mag a = 0 ∧ mag b = 0)) {r : Int × Int}
    (h : Ev (fun k => soft_Div.j1 k a b (neg a != neg b) (kindOf (mag b)) (decide (mag a = 0))) r) : Ev (fun k => soft_Div.f k a b) r := by
  have h3 : mag a ≠ INF := by unfold fin at fa; omega
  have h4 : mag b ≠ INF := by unfold fin at fb; omega
  have kz : (kindOf (mag a) == 1) = decide (mag a = 0) := by
    rw [Bool.eq_iff_iff]; simp only [beq_iff_eq, decide_eq_true_eq]; exact kind_zero
  refine div_kinds ha hb (by rw [fin_nan fa, fin_nan fb]; rfl) (Ev.succ ?_)
  simp only [soft_Div.j0]
  have hb0 : divBad a b = false := by
    unfold divBad; simp [h3]; intro h; exact fun h' => h0 ⟨h, h'⟩
  refine Ev.neg (by rw [hb0]; decide) (Ev.neg (fun h => h3 (kind_inf.mp h)) (Ev.neg (fun h => h4 (kind_inf.mp h)) ?_))
  rw [kz]
  exact h
/-- A number by zero. -/
theorem div_zero {a b : Int} (ha : U a) (hb : U b) (fa : fin a) (za : mag a ≠ 0) (zb : mag b = 0) : Ev (fun k => soft_Div.f k a b) (signed (neg a != neg b) INF, 8) := by
  refine div_fin_start ha hb fa (by unfold fin; rw [zb]; decide) (fun h => za h.1) (Ev.succ ?_)
  simp only [soft_Div.j1]
  exact Ev.neg (by simp [za]) (Ev.pos (kind_zero.mpr zb) (Ev.call (make_inf _) (Ev.now _)))

/-- DIV: of two numbers, the second of which isn't zero. -/
theorem div_fin {a b : Int} (ha : U a) (hb : U b) (fa : fin a) (fb : fin b) (zb : mag b ≠ 0) : ∃ r f, Ev (fun k => soft_Div.f k a b) (r, f) ∧ Rd (val a / val b) (neg a != neg b) r f := by
  have vb0 : val b ≠ 0 := fun h => zb (val_zero_iff.mp h)
  by_cases za : mag a = 0
  · refine ⟨_, 0, div_fin_start ha hb fa fb (fun h => zb h.2) (Ev.succ ?_), ⟨fun _ => ⟨rfl, rfl⟩, fun h => absurd ?_ h⟩⟩
    · simp only [soft_Div.j1]
      exact Ev.pos (by simp [za]) (Ev.call (make_zero _) (Ev.now _))
    · rw [val_zero_iff.mpr za, Rat.div_def]; grind
  · have ma0 := (mag_lt (a := a)).1
    have mb0 := (mag_lt (a := b)).1
    have pa := word_Parts_ev ha (show 0 < mag a by omega) fa
    have pb := word_Parts_ev hb (show 0 < mag b by omega) fb
    obtain ⟨ea1, ea2⟩ := fin_expo fa
    obtain ⟨eb1, eb2⟩ := fin_expo fb
    have ma := mant_pos (m := mag a) (by omega)
    have ma' := mant_lt (m := mag a)
    have mb := mant_pos (m := mag b) (by omega)
    have mb' := mant_lt (m := mag b)
    have va : vm (mag a) = (mant (mag a) : Rat) * pw (expo (mag a)) := rfl
    have vb : vm (mag b) = (mant (mag b) : Rat) * pw (expo (mag b)) := rfl
    have emag : ∀ c : Int, c % 9223372036854775808 = mag c := fun _ => rfl
    rw [emag] at pa pb
    generalize hM : mant (mag a) = M at *
    generalize hN : mant (mag b) = N at *
    generalize hE : expo (mag a) = E at *
    generalize hG : expo (mag b) = G at *
    obtain ⟨bm1, bm2, bm3⟩ := blen_pos ma
    obtain ⟨bn1, bn2, bn3⟩ := blen_pos mb
    have hLm : blen M ≤ 53 := blen_le (by decide) (by rw [show p2 53 = 9007199254740992 from by decide]; omega)
    have hLn : blen N ≤ 53 := blen_le (by decide) (by rw [show p2 53 = 9007199254740992 from by decide]; omega)
    -- the shifted numbers
    have hs : 0 ≤ 53 - blen M + 10 := by omega
    have ht : 0 ≤ 64 - blen N := by omega
    have hP := p2_pos (53 - blen M + 10)
    have hQ := p2_pos (64 - blen N)
    have u0 : 4611686018427387904 ≤ M * p2 (53 - blen M + 10) := by
      have e : (4611686018427387904 : Int) = p2 (blen M - 1) * p2 (53 - blen M + 10) := by rw [← p2_add (by omega) hs, show blen M - 1 + (53 - blen M + 10) = 62 from by omega]; decide
      rw [e]; exact Int.mul_le_mul_of_nonneg_right bm2 (by omega)
    have u1 : M * p2 (53 - blen M + 10) < 9223372036854775808 := by
      have e : (9223372036854775808 : Int) = p2 (blen M) * p2 (53 - blen M + 10) := by rw [← p2_add (by omega) hs, show blen M + (53 - blen M + 10) = 63 from by omega]; decide
      rw [e]; exact Int.mul_lt_mul_of_pos_right bm3 hP
    have y0 : 9223372036854775808 ≤ N * p2 (64 - blen N) := by
      have e : (9223372036854775808 : Int) = p2 (blen N - 1) * p2 (64 - blen N) := by rw [← p2_add (by omega) ht, show blen N - 1 + (64 - blen N) = 63 from by omega]; decide
      rw [e]; exact Int.mul_le_mul_of_nonneg_right bn2 (by omega)
    have y1 : N * p2 (64 - blen N) < 18446744073709551616 := by
      have e : (18446744073709551616 : Int) = p2 (blen N) * p2 (64 - blen N) := by rw [← p2_add (by omega) ht, show blen N + (64 - blen N) = 64 from by omega]; decide
      rw [e]; exact Int.mul_lt_mul_of_pos_right bn3 hQ
    have dv := wide_Div_ev (u := M * p2 (53 - blen M + 10)) (y := N * p2 (64 - blen N)) (by omega) (by omega) y0 y1
    have es : shl .u64 M (53 - blen M + 10) = M * p2 (53 - blen M + 10) := by rw [shl_u64 hs (by omega)]; exact Int.emod_eq_of_lt (by omega) (by omega)
    have et : shl .u64 N (64 - blen N) = N * p2 (64 - blen N) := by rw [shl_u64 ht (by omega)]; exact Int.emod_eq_of_lt (by omega) (by omega)
    -- the quotient as a number
    have hx : rabs (val a / val b) * ((N * p2 (64 - blen N) : Int) : Rat) = ((M * p2 (53 - blen M + 10) * 18446744073709551616 : Int) : Rat) * pw (E - (53 - blen M) - 10 - 64 - (G - (64 - blen N))) := by
      have e1 : rabs (val a / val b) * vm (mag b) = vm (mag a) := by
        have p1 := vm_pos (m := mag a) (by omega)
        have p2 := vm_pos (m := mag b) (by omega)
        have e0 : val a / val b * val b = val a := by rw [Rat.div_mul_cancel vb0]
        have e3 : rabs (val a / val b) * rabs (val b) = rabs (val a) := by
          rw [← rabs_mul, e0]
        rw [rabs_val, rabs_val] at e3
        exact e3
      rw [va, vb] at e1
      have w1 : ((p2 (53 - blen M + 10) : Int) : Rat) = pw (53 - blen M + 10) := (pw_p2 hs).symm
      have w2 : ((p2 (64 - blen N) : Int) : Rat) = pw (64 - blen N) := (pw_p2 ht).symm
      have w3 : (18446744073709551616 : Rat) = pw 64 := by rw [pw_p2 (by decide), p2_64]; rfl
      push_cast
      rw [w1, w2, w3]
      -- multiply by 2^G
      have hG' := pw_pos G
      have k1 : (rabs (val a / val b) * ((N : Rat) * pw (64 - blen N))) * pw G = ((M : Rat) * pw (53 - blen M + 10) * pw 64 * pw (E - (53 - blen M) - 10 - 64 - (G - (64 - blen N)))) * pw G := by
        have k2 : pw (53 - blen M + 10) * pw 64 * pw (E - (53 - blen M) - 10 - 64 - (G - (64 - blen N))) * pw G = pw E * pw (64 - blen N) := by
          rw [← pw_add, ← pw_add, ← pw_add, ← pw_add]; congr 1; omega
        have k3 : (rabs (val a / val b) * ((N : Rat) * pw (64 - blen N))) * pw G = (rabs (val a / val b) * ((N : Rat) * pw G)) * pw (64 - blen N) := by grind
        rw [k3, e1]
        grind
      exact Rat.le_antisymm (Rat.le_of_mul_le_mul_right (by rw [k1]; exact Rat.le_refl) hG') (Rat.le_of_mul_le_mul_right (by rw [k1]; exact Rat.le_refl) hG')
    have hX0 : 0 < rabs (val a / val b) := by
      refine rabs_pos (fun h => ?_)
      have : val a = 0 := by
        have e0 : val a / val b * val b = val a := by rw [Rat.div_mul_cancel vb0]
        rw [← e0, h]; grind
      exact za (val_zero_iff.mp this)
    generalize hu : M * p2 (53 - blen M + 10) = u at *
    generalize hy : N * p2 (64 - blen N) = y at *
    generalize hD : E - (53 - blen M) - 10 - 64 - (G - (64 - blen N)) = D at *
    have yp : 0 < y := by omega
    have md := Int.mul_ediv_add_emod (u * 18446744073709551616) y
    have r0 := Int.emod_nonneg (u * 18446744073709551616) (Int.ne_of_gt yp)
    have r1 := Int.emod_lt_of_pos (u * 18446744073709551616) yp
    have q0 : 4611686018427387904 ≤ u * 18446744073709551616 / y := by apply Int.le_ediv_of_mul_le yp; omega
    have q1 : u * 18446744073709551616 / y < 18446744073709551616 := by apply Int.ediv_lt_of_lt_mul yp; omega
    generalize hq : u * 18446744073709551616 / y = q at *
    generalize hr : u * 18446744073709551616 % y = r at *
    have hyr : (0 : Rat) < (y : Rat) := by exact_mod_cast yp
    have hw : wv 0 q = q := by unfold wv; omega
    have hblen : 54 ≤ blen q := by
      obtain ⟨c1, c2, c3⟩ := blen_pos (x := q) (by omega)
      refine Decidable.byContradiction fun hc => ?_
      have := p2_le (show blen q ≤ 53 from by omega)
      have e53 : p2 53 = 9007199254740992 := by decide
      omega
    have bd : -100000 ≤ D ∧ D ≤ 100000 := by omega
    obtain ⟨m, f, er, rb⟩ := round_Round_ev (neg a != neg b) U_0 ⟨by omega, q1⟩ bd.1 bd.2 (r != 0) (x := rabs (val a / val b)) (by rw [hw]; omega)
      (by intro h
          have h : r = 0 := by simpa using h
          rw [hw]
          have e1 : u * 18446744073709551616 = q * y := by rw [Int.mul_comm q]; omega
          rw [e1] at hx
          have e2 : rabs (val a / val b) * (y : Rat) = ((q : Rat) * pw D) * (y : Rat) := by push_cast at hx; grind
          exact Rat.le_antisymm (Rat.le_of_mul_le_mul_right (by rw [e2]; exact Rat.le_refl) hyr) (Rat.le_of_mul_le_mul_right (by rw [e2]; exact Rat.le_refl) hyr))
      (by intro h
          have h : r ≠ 0 := by simpa using h
          rw [hw]
          refine ⟨⟨?_, ?_⟩, hblen⟩
          · refine Rat.lt_of_mul_lt_mul_right (c := (y : Rat)) ?_ (Rat.le_of_lt hyr)
            rw [hx]
            have h1 : (y * q : Int) * pw D < (u * 18446744073709551616 : Int) * pw D := mul_pw_lt.mpr (by omega)
            push_cast at h1 ⊢; grind
          · refine Rat.lt_of_mul_lt_mul_right (c := (y : Rat)) ?_ (Rat.le_of_lt hyr)
            rw [hx]
            have h2 : y * (q + 1) = y * q + y := by grind
            have h1 : (u * 18446744073709551616 : Int) * pw D < (y * (q + 1) : Int) * pw D := mul_pw_lt.mpr (by omega)
            push_cast at h1 ⊢; grind)
    refine ⟨signed (neg a != neg b) m, f, div_fin_start ha hb fa fb (fun h => za h.1) (Ev.succ ?_), ⟨fun h => ?_, fun _ => ⟨m, rb, ?_⟩⟩⟩
    · simp only [soft_Div.j1]
      refine Ev.neg (by simp [za]) (Ev.neg (fun h => zb (kind_zero.mp h)) (Ev.bind pa (Ev.bind pb ?_)))
      dsimp only
      have l1 : wv 0 M = M := by unfold wv; omega
      have l2 : wv 0 N = N := by unfold wv; omega
      have k1 := wide_Len_ev (h := 0) (l := M) U_0 ⟨by omega, by omega⟩
      have k2 := wide_Len_ev (h := 0) (l := N) U_0 ⟨by omega, by omega⟩
      rw [l1] at k1
      rw [l2] at k2
      refine Ev.bind k1 (Ev.bind k2 ?_)
      rw [w64 (x := 53 - blen M) (by omega) (by omega), w64 (x := 53 - blen M + 10) (by omega) (by omega), w64 (x := 64 - blen N) (by omega) (by omega), es, et,
        w64 (x := E - (53 - blen M)) (by omega) (by omega), w64 (x := E - (53 - blen M) - 10) (by omega) (by omega), w64 (x := E - (53 - blen M) - 10 - 64) (by omega) (by omega),
        w64 (x := G - (64 - blen N)) (by omega) (by omega), w64 (x := E - (53 - blen M) - 10 - 64 - (G - (64 - blen N))) (by omega) (by omega), hD]
      refine Ev.pos hs (Ev.pos ht (Ev.bind dv ?_))
      exact Ev.bind er (Ev.now _)
    · exfalso
      rw [h] at hX0
      exact absurd hX0 (by decide)
    · congr 1
      have p1 := vm_pos (m := mag a) (by omega)
      have p2 := vm_pos (m := mag b) (by omega)
      have e0 : val a / val b * val b = val a := by rw [Rat.div_mul_cancel vb0]
      have hne : val a / val b ≠ 0 := fun h => by rw [h] at hX0; exact absurd hX0 (by decide)
      have sa := val_eq a
      have sb := val_eq b
      generalize val a / val b = X at *
      generalize val a = A at *
      generalize val b = B at *
      by_cases c1 : X < 0
      · rw [decide_eq_true c1]
        cases h1 : neg a <;> cases h2 : neg b <;> rw [h1] at sa <;> rw [h2] at sb <;> simp at sa sb
        · have := Rat.mul_pos (show 0 < -X by grind) (show 0 < B by grind); grind
        · rfl
        · rfl
        · have := Rat.mul_pos (show 0 < -X by grind) (show 0 < -B by grind); grind
      · rw [decide_eq_false c1]
        have c2 : 0 < X := by grind
        cases h1 : neg a <;> cases h2 : neg b <;> rw [h1] at sa <;> rw [h2] at sb <;> simp at sa sb
        · rfl
        · have := Rat.mul_pos c2 (show 0 < -B by grind); grind
        · have := Rat.mul_pos c2 (show 0 < B by grind); grind
        · rfl
def DivR (a b r f : Int) : Prop :=
  if (isNan a || isNan b) = true then r = QNAN ∧ f = nanF a b
  else if divBad a b = true then r = QNAN ∧ f = 16
  else if mag a = INF then r = signed (neg a != neg b) INF ∧ f = 0
  else if mag b = INF then r = signed (neg a != neg b) 0 ∧ f = 0
  else if mag b = 0 then r = signed (neg a != neg b) INF ∧ f = 8
  else Rd (val a / val b) (neg a != neg b) r f

theorem div_ev {a b : Int} (ha : U a) (hb : U b) : ∃ r f, Ev (fun k => soft_Div.f k a b) (r, f) ∧ DivR a b r f := by
  unfold DivR
  by_cases h : (isNan a || isNan b) = true
  · exact ⟨_, _, div_nan ha hb h, by rw [if_pos h]; exact ⟨rfl, rfl⟩⟩
  · obtain ⟨h0, na, nb⟩ := nan_or h
    by_cases iz : divBad a b = true
    · exact ⟨_, _, div_bad ha hb iz, by rw [if_neg h, if_pos iz]; exact ⟨rfl, rfl⟩⟩
    · by_cases ia : mag a = INF
      · have ib : mag b ≠ INF := fun hh => iz (by unfold divBad; rw [ia, hh]; decide)
        exact ⟨_, _, div_infa ha hb ia (fin_of nb ib), by rw [if_neg h, if_neg iz, if_pos ia]; exact ⟨rfl, rfl⟩⟩
      · by_cases ib : mag b = INF
        · exact ⟨_, _, div_infb ha hb (fin_of na ia) ib, by rw [if_neg h, if_neg iz, if_neg ia, if_pos ib]; exact ⟨rfl, rfl⟩⟩
        · by_cases zb : mag b = 0
          · have za : mag a ≠ 0 := fun hh => iz (by unfold divBad; rw [zb, hh]; decide)
            exact ⟨_, _, div_zero ha hb (fin_of na ia) za zb, by rw [if_neg h, if_neg iz, if_neg ia, if_neg ib, if_pos zb]; exact ⟨rfl, rfl⟩⟩
          · obtain ⟨r, f, ev, rd⟩ := div_fin ha hb (fin_of na ia) (fin_of nb ib) zb
            exact ⟨r, f, ev, by rw [if_neg h, if_neg iz, if_neg ia, if_neg ib, if_neg zb]; exact rd⟩
theorem DivR.unique {a b r f r' f' : Int} (h : DivR a b r f) (h' : DivR a b r' f') : r = r' ∧ f = f' := by
  unfold DivR at h h'
  by_cases c1 : (isNan a || isNan b) = true
  · rw [if_pos c1] at h h'; omega
  · rw [if_neg c1] at h h'
    by_cases c2 : divBad a b = true
    · rw [if_pos c2] at h h'; omega
    · rw [if_neg c2] at h h'
      by_cases c3 : mag a = INF
      · rw [if_pos c3] at h h'; omega
      · rw [if_neg c3] at h h'
        by_cases c4 : mag b = INF
        · rw [if_pos c4] at h h'; omega
        · rw [if_neg c4] at h h'
          by_cases c5 : mag b = 0
          · rw [if_pos c5] at h h'; omega
          · rw [if_neg c5] at h h'; exact h.unique h'
theorem DivR.flags {a b r f : Int} (h : DivR a b r f) : 0 ≤ f ∧ f ≤ 16 := by
  have := nanF_le a b
  unfold DivR at h
  split at h
  · omega
  · split at h
    · omega
    · split at h
      · omega
      · split at h
        · omega
        · split at h
          · omega
          · exact h.flags

theorem DivR.rangeU {a b r f : Int} (h : DivR a b r f) : U r := by
  unfold DivR at h
  have q : U QNAN := by unfold QNAN U; decide
  split at h
  · rw [h.1]; exact q
  · split at h
    · rw [h.1]; exact q
    · split at h
      · rw [h.1]; exact U_signed INF_lt.1 INF_lt.2
      · split at h
        · rw [h.1]; exact U_signed (by decide) (by decide)
        · split at h
          · rw [h.1]; exact U_signed INF_lt.1 INF_lt.2
          · exact h.range.1
noncomputable def dP (a b : Int) : Int × Int := resOf (fun k => soft_Div.f k a b)
theorem dP_ev {a b : Int} (ha : U a) (hb : U b) : Ev (fun k => soft_Div.f k a b) (dP a b) := by
  obtain ⟨r, f, ev, R⟩ := div_ev ha hb
  exact Ev.resE ev
theorem dP_R {a b : Int} (ha : U a) (hb : U b) : DivR a b (dP a b).1 (dP a b).2 := by
  obtain ⟨r, f, ev, R⟩ := div_ev ha hb
  rw [Ev.det (dP_ev ha hb) ev]
  exact R

theorem W01 : wrap64 (0 + 1) = 1 := by rw [w64 (by decide) (by decide)]; rfl
theorem W00 : wrap64 0 = 0 := by rw [w64 (by decide) (by decide)]
theorem at11 (x : Int) : at4 1 1 1 [x] 0 0 = x := by unfold at4 inB; simp [rd]
theorem set11 (x v : Int) : set4 1 1 1 [x] 0 0 v = [v] := by unfold set4 inB; simp
theorem at11_eq (x : Int) : mat_Matrix_At.f 1 1 1 [x] 0 0 = some x := by
  have := at_eq (r := 1) (c := 1) (s := 1) (Sm.nat (R := 1) (C := 1) (by decide) (by decide)) [x] 0 0
  rw [at11] at this; exact this
theorem set11_eq (x v : Int) : mat_Matrix_Set.f 1 1 1 [x] 0 0 v = some [v] := by
  have := set_eq (r := 1) (c := 1) (s := 1) (Sm.nat (R := 1) (C := 1) (by decide) (by decide)) [x] 0 0 v
  rw [set11] at this; exact this
theorem cDiv {F a b : Int} (ha : U a) (hb : U b) : ∃ q F', Ev (fun k => soft_Calc_Div.f k F a b) (q, F') ∧ U q := by
  refine ⟨(dP a b).1, Go.bits .or .u8 F (dP a b).2, ?_, (dP_R ha hb).rangeU⟩
  unfold soft_Calc_Div.f
  exact Ev.bind (dP_ev ha hb) (Ev.call rfl (Ev.now _))
/-- A triangle of one number that isn't nought. -/
theorem trsv1 {M v F : Int} (hM : U M) (hv : U v) (h0 : mag M ≠ 0) : ∃ w F', U w ∧ Ev (fun K => solve_Trsv.f K F 1 1 1 [M] true false [v]) ([w], 0, F') := by
  obtain ⟨q, F', ev, uq⟩ := cDiv (F := F) hv hM
  have hk := word_Kind_ev hM
  have nk : ¬ kindOf (M % 9223372036854775808) = 1 := fun h => by
    have := mag_lt (a := M)
    unfold mag at h0 this
    unfold kindOf at h
    grind
  refine ⟨q, F', uq, ?_⟩
  unfold solve_Trsv.f
  refine Ev.bind (check_dense (R := 1) (C := 1) (by decide) (by decide) rfl) (Ev.pos rfl (Ev.pos rfl (Ev.succ ?_)))
  simp only [solve_Trsv.j0]
  refine Ev.neg (by simp) (Ev.succ ?_)
  simp only [solve_Trsv.l0]
  refine Ev.pos (by simp) (Ev.neg (by simp) (Ev.call (at11_eq M) (Ev.bind hk (Ev.neg nk (Ev.succ ?_)))))
  simp only [solve_Trsv.l0]
  rw [W01]
  refine Ev.neg (by simp) (Ev.pos (by simp) (Ev.succ ?_))
  simp only [solve_Trsv.l1]
  refine Ev.pos (by simp) (Ev.pos (by trivial) (Ev.succ ?_))
  simp only [solve_Trsv.j3]
  rw [show wrap64 (wrap64 (([v].length : Int) - 1) - 0) = 0 from by simp [W00]]
  refine Ev.pos (by trivial) (Ev.call rfl (Ev.call rfl (Ev.succ ?_)))
  simp only [solve_Trsv.l2]
  rw [W01]
  refine Ev.neg (by simp) (Ev.neg (by simp) (Ev.pos (by simp) (Ev.pos (by simp) (Ev.call (at11_eq M) (Ev.bind (show Ev _ (q, F') from ev) (Ev.succ ?_))))))
  simp only [solve_Trsv.l1]
  refine Ev.neg (by simp) ?_
  exact Ev.now _
theorem clone1 (M : Int) : Ev (fun K => mat_Matrix_Clone.f K 1 1 1 [M]) (1, 1, 1, [M]) := by
  have := clone_ev (R := 1) (C := 1) (s := 1) (by decide) (by decide) (by decide) [M]
  have e : gat 1 1 (atN 1 1 1 [M]) = [M] := by
    have : gat 1 1 (atN 1 1 1 [M]) = [at4 1 1 1 [M] 0 0] := rfl
    rw [this, at11]
  have e2 : gat 1 1 (atN ((1 : Nat) : Int) ((1 : Nat) : Int) 1 [M]) = [M] := e
  rw [e2] at this
  exact this
def LEAST : Int := 4372995238176751616
theorem least_ok : U LEAST ∧ mag LEAST ≠ 0 := ⟨⟨by decide, by decide⟩, by decide⟩
theorem abs_ok {M : Int} (h : U M) : word_Abs.f M = some (mag M) := word_Abs_eq h
/-- Pivot of one equation. -/
theorem pivot1 {M v F : Int} (hM : U M) (hv : U v) : ∃ (o : List Int) (made : Bool) (e F' : Int), ((e = 0 ∧ ∃ w, o = [w] ∧ U w) ∨ e = 6) ∧ Ev (fun K => solve_Pivot.f K F 1 1 1 [M] [v] LEAST) (o, made, e, F') := by
  obtain ⟨b, fev, hb⟩ := finite_ev (R := 1) (C := 1) (s := 1) (d := [M]) (by decide) (by decide) (by decide) (by simpa using hM)
  have fev : Ev (fun K => mat_Matrix_Finite.f K 1 1 1 [M]) b := fev
  have d14 : decide ((1 : Int) > 4) = false := by decide
  cases b with
  | false =>
    refine ⟨[], false, 6, F, .inr rfl, ?_⟩
    unfold solve_Pivot.f
    refine Ev.bind (check_dense (R := 1) (C := 1) (by decide) (by decide) rfl) (Ev.pos rfl (Ev.pos rfl (Ev.pos rfl (Ev.succ ?_))))
    simp only [solve_Pivot.j0]
    rw [d14]
    refine Ev.neg (by simp) (Ev.bind fev (Ev.neg (by simp) (Ev.succ ?_)))
    simp only [solve_Pivot.j1]
    exact Ev.pos (by trivial) (Ev.now _)
  | true =>
    have hk := word_Kind_ev least_ok.1
    -- the leading number, made great enough
    obtain ⟨M2, made, uM2, m2, hlead⟩ : ∃ (M2 : Int) (made : Bool), U M2 ∧ mag M2 ≠ 0 ∧ ∀ {ρ : List Int × Bool × Int × Int}, Ev (fun K => solve_Pivot.j9 K LEAST 1 [v] [0] made 0 1 0 F 1 1 1 [M2]) ρ →
        Ev (fun K => solve_Pivot.l6 K LEAST 1 [v] [0] false 0 0 1 0 1 1 F 1 1 1 [M]) ρ := by
      have ab : mag LEAST = LEAST := by decide
      by_cases c : mag M < LEAST
      · refine ⟨LEAST, true, least_ok.1, least_ok.2, fun h => Ev.succ ?_⟩
        simp only [solve_Pivot.l6]
        exact Ev.neg (by simp) (Ev.pos (by simp) (Ev.pos (by simp) (Ev.pos (by simp) (Ev.pos (by simp) (Ev.call (at11_eq M) (Ev.call (abs_ok hM) (Ev.pos c (Ev.call (set11_eq M _) h))))))))
      · refine ⟨M, false, hM, ?_, fun h => Ev.succ ?_⟩
        · intro h
          rw [h] at c
          exact c (by decide)
        · simp only [solve_Pivot.l6]
          exact Ev.neg (by simp) (Ev.pos (by simp) (Ev.pos (by simp) (Ev.pos (by simp) (Ev.pos (by simp) (Ev.call (at11_eq M) (Ev.call (abs_ok hM) (Ev.neg c h)))))))
    obtain ⟨w, F', uw, tev⟩ := trsv1 (F := F) uM2 hv m2
    refine ⟨[w], made, 0, F', .inl ⟨rfl, w, rfl, uw⟩, ?_⟩
    unfold solve_Pivot.f
    refine Ev.bind (check_dense (R := 1) (C := 1) (by decide) (by decide) rfl) (Ev.pos rfl (Ev.pos rfl (Ev.pos rfl (Ev.succ ?_))))
    simp only [solve_Pivot.j0]
    rw [d14]
    refine Ev.neg (by simp) (Ev.bind fev (Ev.pos rfl (Ev.call (show word_Finite.f LEAST = some true from by decide +kernel) (Ev.pos rfl (Ev.call rfl (Ev.neg (by decide) (Ev.bind hk (Ev.succ ?_))))))))
    simp only [solve_Pivot.j1]
    refine Ev.neg (by decide) (Ev.bind (clone1 M) (Ev.pos (by simp) (Ev.pos (by decide) (Ev.pos (by decide) ?_))))
    show Ev (fun K => solve_Pivot.l0 K LEAST 1 [v] [0] 1 0 F 1 1 1 [M]) _
    refine Ev.succ ?_
    simp only [solve_Pivot.l0]
    rw [W01]
    refine Ev.pos (by decide) (Ev.pos (by decide) (Ev.pos (by simp) ?_))
    show Ev (fun K => solve_Pivot.l0 K LEAST 1 [v] [0] 1 1 F 1 1 1 [M]) _
    refine Ev.succ ?_
    simp only [solve_Pivot.l0]
    refine Ev.neg (by decide) (Ev.succ ?_)
    simp only [solve_Pivot.l1]
    refine Ev.pos (by decide) (Ev.succ ?_)
    simp only [solve_Pivot.l2]
    refine Ev.pos (by decide) (Ev.succ ?_)
    simp only [solve_Pivot.l4]
    rw [W01]
    -- the greatest of one is that
    have rest : ∀ m : Int, Ev (fun K => solve_Pivot.l4 K LEAST 1 [v] [0] false 0 0 0 m 0 1 1 0 F 1 1 1 [M]) ([w], made, 0, F') := by
      intro m
      refine Ev.succ ?_
      simp only [solve_Pivot.l4]
      rw [W01]
      refine Ev.neg (by decide) (Ev.succ ?_)
      simp only [solve_Pivot.l2]
      refine Ev.neg (by decide) (Ev.succ ?_)
      simp only [solve_Pivot.l5]
      rw [W01]
      refine Ev.pos (by decide) (Ev.call (at11_eq M) (Ev.call (at11_eq M) (Ev.call (set11_eq M _) (Ev.call (set11_eq M _) (Ev.succ ?_)))))
      simp only [solve_Pivot.l5]
      refine Ev.neg (by decide) (Ev.pos (by decide) (Ev.pos (by simp) (Ev.pos (by decide) (Ev.pos (by simp) ?_))))
      show Ev (fun K => solve_Pivot.l6 K LEAST 1 [v] [0] false 0 0 1 0 1 0 F 1 1 1 [M]) _
      refine Ev.succ ?_
      simp only [solve_Pivot.l6]
      rw [W01]
      refine Ev.pos (by decide) (Ev.call (at11_eq M) (Ev.call (at11_eq M) (Ev.call (set11_eq M _) (Ev.call (set11_eq M _) (hlead (Ev.succ ?_))))))
      simp only [solve_Pivot.j9]
      rw [W01]
      refine Ev.succ ?_
      simp only [solve_Pivot.l7]
      rw [W01]
      refine Ev.neg (by decide) (Ev.succ ?_)
      simp only [solve_Pivot.l1]
      refine Ev.neg (by decide) (Ev.bind tev (Ev.pos rfl (Ev.pos (by decide) (Ev.pos (by decide) ?_))))
      show Ev (fun K => solve_Pivot.l3 K made [w] [0] [0] 1 0 F') _
      refine Ev.succ ?_
      simp only [solve_Pivot.l3]
      rw [W01]
      refine Ev.pos (by decide) (Ev.pos (by decide) (Ev.pos (by simp) (Ev.pos (by simp) (Ev.pos (by decide) (Ev.pos (by decide) ?_)))))
      show Ev (fun K => solve_Pivot.l3 K made [w] [w] [0] 1 1 F') _
      refine Ev.succ ?_
      simp only [solve_Pivot.l3]
      exact Ev.neg (by decide) (Ev.now _)
    refine Ev.pos (by decide) (Ev.call (at11_eq M) (Ev.call (abs_ok hM) ?_))
    by_cases c : mag M > 0
    · exact Ev.pos c (rest _)
    · exact Ev.neg c (rest _)

theorem RB.huge {x : Rat} {b f : Int} (h : RB x b f) (hx : pw 1024 ≤ x) : b = INF ∧ f = 5 := by
  obtain ⟨q, n, hr, rfl, rfl⟩ := h.ex
  have e53 : ((9007199254740992 : Int) : Rat) = pw 53 := by rw [pw_p2 (by decide)]; rfl
  have h1 : pw 1024 < pw (53 + q) := by rw [pw_add, ← e53]; exact Std.lt_of_le_of_lt hx hr.hi
  have hq : 972 ≤ q := by
    refine Decidable.byContradiction fun hc => ?_
    have := pw_mono (show 53 + q ≤ 1024 by omega)
    grind
  have hn : 4503599627370496 ≤ n := by rcases hr.n_ge' with h | h <;> omega
  have e : ¬ enc q n < INF := by unfold enc INF; omega
  rw [if_neg e, if_neg e]; exact ⟨rfl, rfl⟩
theorem RB.small {x : Rat} {b f : Int} (h : RB x b f) (hx : x < pw (-1075)) : b = 0 ∧ f = 3 := by
  obtain ⟨q, n, hr, rfl, rfl⟩ := h.ex
  have e52 : ((4503599627370496 : Int) : Rat) = pw 52 := by rw [pw_p2 (by decide)]; rfl
  have hq : q = -1074 := by
    rcases hr.lo with h | h
    · exact h
    · rw [e52, ← pw_add] at h
      have h2 : pw (52 + q) < pw (-1075) := Std.lt_of_le_of_lt h hx
      have h3 := hr.hq
      have := pw_mono (show -1075 ≤ 52 + q by omega)
      grind
  subst hq
  have h1 := hr.near2
  have e2 := pw_pred (-1074)
  have hn : n ≤ 0 := by
    refine Decidable.byContradiction fun hc => ?_
    have h3 : ((1 : Int) : Rat) * pw (-1074) ≤ ((2 * n - 1 : Int) : Rat) * pw (-1074) := mul_pw_le.mpr (by omega)
    rw [show (-1074 : Int) - 1 = -1075 from by decide] at e2
    have e3 : ((1 : Int) : Rat) * pw (-1074) = pw (-1074) := by simp
    grind
  have hn0 := hr.n_nonneg
  obtain rfl : n = 0 := by omega
  have e : enc (-1074) 0 < INF := by decide
  have hp := hr.pos
  have hm := pw_mono (show (-1075 : Int) ≤ -1022 by decide)
  rw [if_pos e, if_pos e, if_neg (by simp; grind), if_pos (by grind)]
  exact ⟨rfl, rfl⟩

def ScaleR (a c r f : Int) : Prop :=
  if isNan a = true then r = QNAN ∧ f = (if signals a then 16 else 0)
  else if mag a = INF ∨ mag a = 0 then r = a ∧ f = 0
  else Rd (val a * pw c) (neg a) r f
theorem val_scale (a c : Int) : val a * pw c = (sgd (neg a) (mant (mag a)) : Rat) * pw (expo (mag a) + c) := by
  rw [val_mant, pw_add]; grind
theorem sgd_neg (s : Bool) {X : Int} (hX : 0 < X) : sgd s X < 0 ↔ s = true := by unfold sgd; cases s <;> simp <;> omega
theorem sgd_zero (s : Bool) {X : Int} : sgd s X = 0 ↔ X = 0 := by unfold sgd; cases s <;> simp
/-- A rounded magnitude, with its sign. -/
theorem Rd.of_sgd (s : Bool) {X E m f : Int} (hX : 0 < X) (z : Bool) (h : RB ((X : Rat) * pw E) m f) : Rd ((sgd s X : Rat) * pw E) z (signed s m) f := by
  refine ⟨fun h0 => ?_, fun _ => ⟨m, by rw [rabs_sgd s (by omega)]; exact h, ?_⟩⟩
  · have := (sgd_zero s).mp (int_pw_zero.mp h0); omega
  · congr 1
    rw [Bool.eq_iff_iff, decide_eq_true_eq, int_pw_neg, sgd_neg s hX]
theorem ScaleR.unique {a c c' r f r' f' : Int} (h : ScaleR a c r f) (h' : ScaleR a c' r' f') (hc : c = c' ∨ (5000 ≤ c ∧ 5000 ≤ c') ∨ (c ≤ -5000 ∧ c' ≤ -5000)) : r = r' ∧ f = f' := by
  unfold ScaleR at h h'
  by_cases c1 : isNan a = true
  · rw [if_pos c1] at h h'; omega
  · rw [if_neg c1] at h h'
    by_cases c2 : mag a = INF ∨ mag a = 0
    · rw [if_pos c2] at h h'; omega
    · rw [if_neg c2] at h h'
      rcases hc with hc | hc
      · subst hc; exact h.unique h'
      · have fa : fin a := fin_of (by simpa using c1) (fun hh => c2 (.inl hh))
        obtain ⟨e1, e2⟩ := fin_expo fa
        have m0 := mant_pos (m := mag a) (by have := (mag_lt (a := a)).1; omega)
        have m1 := mant_lt (m := mag a)
        have e53 : ((9007199254740992 : Int) : Rat) = pw 53 := by rw [pw_p2 (by decide)]; rfl
        have key : ∀ c r f, Rd (val a * pw c) (neg a) r f → ∃ m, r = signed (neg a) m ∧ RB ((mant (mag a) : Rat) * pw (expo (mag a) + c)) m f := by
          intro c r f h
          rw [val_scale] at h
          obtain ⟨m, rb, e⟩ := h.num (fun h0 => by have := (sgd_zero _).mp (int_pw_zero.mp h0); omega)
          rw [rabs_sgd _ (by omega)] at rb
          refine ⟨m, ?_, rb⟩
          rw [e]; congr 1
          rw [Bool.eq_iff_iff, decide_eq_true_eq, int_pw_neg, sgd_neg _ m0]
        have big : ∀ c m f, 5000 ≤ c → RB ((mant (mag a) : Rat) * pw (expo (mag a) + c)) m f → m = INF ∧ f = 5 := by
          intro c m f hc rb
          refine rb.huge ?_
          have h1 : ((1 : Int) : Rat) * pw (expo (mag a) + c) ≤ (mant (mag a) : Rat) * pw (expo (mag a) + c) := mul_pw_le.mpr (by omega)
          have h2 := pw_mono (show (1024 : Int) ≤ expo (mag a) + c by omega)
          have e3 : ((1 : Int) : Rat) * pw (expo (mag a) + c) = pw (expo (mag a) + c) := by simp
          grind
        have low : ∀ c m f, c ≤ -5000 → RB ((mant (mag a) : Rat) * pw (expo (mag a) + c)) m f → m = 0 ∧ f = 3 := by
          intro c m f hc rb
          refine rb.small ?_
          have h1 : (mant (mag a) : Rat) * pw (expo (mag a) + c) < ((9007199254740992 : Int) : Rat) * pw (expo (mag a) + c) := mul_pw_lt.mpr m1
          rw [e53, ← pw_add] at h1
          exact Std.lt_of_lt_of_le h1 (pw_mono (by omega))
        obtain ⟨m, rfl, rb⟩ := key c r f h
        obtain ⟨m', rfl, rb'⟩ := key c' r' f' h'
        rcases hc with ⟨h1, h2⟩ | ⟨h1, h2⟩
        · obtain ⟨rfl, rfl⟩ := big c m f h1 rb
          obtain ⟨rfl, rfl⟩ := big c' m' f' h2 rb'
          exact ⟨rfl, rfl⟩
        · obtain ⟨rfl, rfl⟩ := low c m f h1 rb
          obtain ⟨rfl, rfl⟩ := low c' m' f' h2 rb'
          exact ⟨rfl, rfl⟩
theorem ScaleR.flags {a c r f : Int} (h : ScaleR a c r f) : 0 ≤ f ∧ f ≤ 16 := by
  unfold ScaleR at h
  split at h
  · split at h <;> omega
  · split at h
    · omega
    · exact h.flags
theorem ScaleR.range {a c r f : Int} (ha : U a) (h : ScaleR a c r f) : U r := by
  unfold ScaleR at h
  split at h
  · rw [h.1]; exact ⟨by decide, by decide⟩
  · split at h
    · rw [h.1]; exact ha
    · exact h.range.1
/-- THE PROGRAM's PRODUCT WITH A POWER OF TWO. -/
theorem more_Scale_ev {a : Int} (ha : U a) (n : Int) : ∃ r f, Ev (fun k => more_Scale.f k a n) (r, f) ∧ ScaleR a (mx (-10000) (mn n 10000)) r f := by
  unfold ScaleR
  have hk := word_Kind_ev ha
  rw [kind_mag] at hk
  by_cases h : isNan a = true
  · refine ⟨QNAN, _, ?_, by rw [if_pos h]; exact ⟨rfl, rfl⟩⟩
    unfold more_Scale.f
    refine Ev.bind hk (Ev.pos (kind_nan.mpr h) (Ev.bind (word_Signals_ev ha) ?_))
    cases hs : signals a
    · exact Ev.neg (by decide) (Ev.now _)
    · exact Ev.pos rfl (Ev.now _)
  · have n5 : ¬ kindOf (mag a) = 5 := fun hh => h (kind_nan.mp hh)
    have start : ∀ r : Int × Int, Ev (fun k => more_Scale.j0 k a n (decide (mag a = INF ∨ mag a = 0))) r → Ev (fun k => more_Scale.f k a n) r := by
      intro r hr
      unfold more_Scale.f
      refine Ev.bind hk (Ev.neg n5 ?_)
      by_cases i : mag a = INF
      · have k4 := kind_inf.mpr i
        rw [decide_eq_true (.inl i)] at hr
        refine Ev.pos k4 ?_
        first | exact hr | (rw [k4]; exact hr)
      · refine Ev.neg (fun hh => i (kind_inf.mp hh)) ?_
        have e : decide (mag a = INF ∨ mag a = 0) = (kindOf (mag a) == 1) := by
          rw [Bool.eq_iff_iff]; simp [i, kind_zero]
        rw [e] at hr
        exact hr
    by_cases c : mag a = INF ∨ mag a = 0
    · refine ⟨a, 0, start _ (Ev.succ ?_), by rw [if_neg h, if_pos c]; exact ⟨rfl, rfl⟩⟩
      simp only [more_Scale.j0]
      exact Ev.pos (decide_eq_true c) (Ev.now _)
    · rw [decide_eq_false c] at start
      have fa : fin a := fin_of (by simpa using h) (fun hh => c (.inl hh))
      have m0' : 0 < mag a := by have := (mag_lt (a := a)).1; omega
      have pa := word_Parts_ev ha m0' fa
      obtain ⟨e1, e2⟩ := fin_expo fa
      have m0 := mant_pos m0'
      have uM := mant_U a
      have emag : a % 9223372036854775808 = mag a := rfl
      rw [emag] at pa
      have hc : -10000 ≤ mx (-10000) (mn n 10000) ∧ mx (-10000) (mn n 10000) ≤ 10000 := by unfold mx mn; split <;> split <;> omega
      have eW : wv 0 (mant (mag a)) = mant (mag a) := by unfold wv; omega
      generalize hd : mx (-10000) (mn n 10000) = d at *
      obtain ⟨m, f, ev, rb⟩ := round_Round_ev (neg a) (h := 0) (l := mant (mag a)) (E := expo (mag a) + d) U_0 uM (by omega) (by omega) false (x := (mant (mag a) : Rat) * pw (expo (mag a) + d)) (by rw [eW]; exact m0) (fun _ => by rw [eW]) (fun h => by cases h)
      refine ⟨signed (neg a) m, f, start _ (Ev.succ ?_), ?_⟩
      · simp only [more_Scale.j0]
        refine Ev.neg (by decide) (Ev.bind pa (Ev.call (word_Neg_eq ha) ?_))
        rw [hd, neg_def]
        dsimp only
        rw [w64 (x := expo (mag a) + d) (by omega) (by omega)]
        exact Ev.bind ev (Ev.now _)
      · rw [if_neg h, if_neg c, val_scale]
        exact Rd.of_sgd _ m0 _ rb
end Gim
namespace Gim
open Go.RowKit Go.Proofs.YtejkoahgmnejkaaDoor.F Go.Proofs.YtejkoahgmnejkaaDoorW.PrintWords Go.Proofs.YtejkoahgmnejkaaDoorW.PrintLast
set_option linter.unusedVariables false

/-- A pattern times a power of two, and the flags, as the program's layer 5 tells. -/
noncomputable def scl (n x : Int) : Int × Int := resOf (fun k => more_Scale.f k x n)
theorem scl_ev {n x : Int} (hx : U x) : Ev (fun k => more_Scale.f k x n) (scl n x) := by
  obtain ⟨r, f, ev, _⟩ := more_Scale_ev hx n
  exact Ev.resE ev
/-- The flags of the first i of some numbers. -/
noncomputable def flagsOf (n : Int) (G : List Int) (i : Nat) : Int := (G.take i).foldl (fun a x => Go.bits .or .u8 a (scl n x).2) 0
theorem flagsOf_succ {n : Int} {G : List Int} {i : Nat} (h : i < G.length) : flagsOf n G (i + 1) = Go.bits .or .u8 (flagsOf n G i) (scl n G[i]).2 := by
  unfold flagsOf
  rw [List.take_succ_eq_append_getElem h, List.foldl_append]
  rfl
/-- Of some numbers the first i are scaled. -/
noncomputable def part1 (n : Int) (G : List Int) (i : Nat) : List Int := (G.take i).map (fun x => (scl n x).1) ++ G.drop i
theorem part1_length {n : Int} {G : List Int} {i : Nat} (h : i ≤ G.length) : (part1 n G i).length = G.length := by
  simp [part1]; omega
theorem part1_get {n : Int} {G : List Int} {i : Nat} (h : i < G.length) : rd (part1 n G i) (i : Int) = G[i] := by
  rw [rd_lt (by rw [part1_length (by omega)]; exact h)]
  unfold part1
  rw [List.getElem_append_right (by simp; omega)]
  simp [show min i G.length = i by omega]
theorem part1_set {n : Int} {G : List Int} {i : Nat} (h : i < G.length) : (part1 n G i).set i (scl n G[i]).1 = part1 n G (i + 1) := by
  apply List.ext_getElem
  · rw [List.length_set, part1_length (by omega), part1_length (by omega)]
  · intro x h1 h2
    rw [List.getElem_set]
    have hx : x < G.length := by rw [part1_length (by omega)] at h2; exact h2
    have get : ∀ j, (hj : j ≤ G.length) → ∀ hh : x < (part1 n G j).length, (part1 n G j)[x] = if x < j then (scl n G[x]).1 else G[x] := by
      intro j hj hh
      simp only [part1]
      by_cases c : x < j
      · rw [if_pos c, List.getElem_append_left (by simp; omega)]
        simp
      · rw [if_neg c, List.getElem_append_right (by simp; omega)]
        simp [show min j G.length = j by omega, show j + (x - j) = x by omega]
    by_cases e : i = x
    · subst e
      rw [if_pos rfl, get (i + 1) (by omega) h2, if_pos (by omega)]
    · rw [if_neg e, get i (by omega) _, get (i + 1) (by omega) h2]
      by_cases c : x < i
      · rw [if_pos c, if_pos (by omega)]
      · rw [if_neg c, if_neg (by omega)]
theorem scale_l0 {r c s n : Int} {G : List Int} (hG : ∀ x ∈ G, U x) (hl : G.length ≤ 1000000) :
    ∀ m i : Nat, G.length - i = m → i ≤ G.length → Ev (fun K => mat_Matrix_Scale.l0 K n (flagsOf n G i) (part1 n G i) (G.length : Int) i r c s) (r, c, s, G.map (fun x => (scl n x).1), flagsOf n G G.length) := by
  intro m
  induction m with
  | zero =>
    intro i h1 h2
    obtain rfl : i = G.length := by omega
    refine Ev.succ ?_
    simp only [mat_Matrix_Scale.l0]
    refine Ev.neg (by omega) ?_
    have e : part1 n G G.length = G.map (fun x => (scl n x).1) := by unfold part1; simp
    rw [e]
    exact Ev.now _
  | succ m ih =>
    intro i h1 h2
    have hi : i < G.length := by omega
    refine Ev.succ ?_
    simp only [mat_Matrix_Scale.l0]
    refine Ev.pos (by omega) (Ev.pos (by omega) (Ev.pos (by rw [part1_length h2]; omega) ?_))
    rw [part1_get hi]
    refine Ev.bind (scl_ev (hG _ (List.getElem_mem hi))) ?_
    rw [w64 (by omega) (by omega), Int.toNat_natCast, part1_set hi, ← flagsOf_succ hi]
    exact ih (i + 1) (by omega) (by omega)
theorem mat_scale_ev {R C : Nat} (hR : R ≤ 100) (hC : C ≤ 100) {s n : Int} (hs : s ≤ 1099511627776) {d : List Int} (hd : ∀ x ∈ d, U x) :
    Ev (fun K => mat_Matrix_Scale.f K R C s d n) ((R : Int), (C : Int), (C : Int), (gat R C (atN R C s d)).map (fun x => (scl n x).1), flagsOf n (gat R C (atN R C s d)) (R * C)) := by
  have hm : R * C ≤ 100 * 100 := Nat.mul_le_mul hR hC
  have hU : ∀ x ∈ gat R C (atN R C s d), U x := gat_U (fun i k => at_U hd _ _)
  have := scale_l0 (r := (R : Int)) (c := (C : Int)) (s := (C : Int)) (n := n) hU (by rw [gat_length]; omega) (R * C) 0 (by rw [gat_length]; omega) (by omega)
  unfold mat_Matrix_Scale.f
  refine Ev.bind (clone_ev (by omega) (by omega) hs d) ?_
  have e1 : part1 n (gat R C (atN R C s d)) 0 = gat R C (atN R C s d) := by unfold part1; simp
  have e2 : flagsOf n (gat R C (atN R C s d)) 0 = 0 := by unfold flagsOf; simp
  rw [e1, e2] at this
  rw [gat_length] at this ⊢
  exact this

theorem rd_map {G : List Int} {f : Int → Int} {i : Nat} (h : i < G.length) : rd (G.map f) (i : Int) = f G[i] := by
  rw [rd_lt (by simpa using h)]; simp
end Gim
namespace Gim
open Go Go.RowKit Go.Proofs.YtejkoahgmnejkaaDoorW.PrintWords Go.Proofs.YtejkoahgmnejkaaDoorW.PrintLast Go.Proofs.YtejkoahgmnejkaaDoorW.PrintMore Go.Proofs.YtejkoahgmnejkaaDoor.F
set_option linter.unusedVariables false

theorem rd_at {l : List Int} {i : Nat} (h : i < l.length) : rd l (i : Int) = l[i] := by
  unfold rd; simp [List.getD_eq_getElem?_getD, h]
theorem greatest_l0 {l : List Int} (hl : ∀ x ∈ l, U x) (hn : l.length ≤ 1000000) : ∀ t i : Nat, l.length - i = t → i ≤ l.length → ∀ m j : Int, 0 ≤ m → m < 9223372036854775808 →
    ∃ m' j', Ev (fun K => order_Greatest.l0 K m j l l.length i) (m', j') ∧ ((0 ≤ m' ∧ m' < 9223372036854775808) ∨ m' = 9221120237041090560) := by
  intro t
  induction t with
  | zero =>
    intro i h1 h2 m j m0 m1
    refine ⟨m, j, Ev.succ ?_, .inl ⟨m0, m1⟩⟩
    simp only [order_Greatest.l0]
    exact Ev.neg (by omega) (Ev.now _)
  | succ t ih =>
    intro i h1 h2 m j m0 m1
    have hi : i < l.length := by omega
    have hu := hl _ (List.getElem_mem hi)
    have hm : 0 ≤ l[i] % 9223372036854775808 ∧ l[i] % 9223372036854775808 < 9223372036854775808 := by omega
    have hk := word_Kind_ev hu
    have ha := word_Abs_eq hu
    by_cases k5 : kindOf (l[i] % 9223372036854775808) = 5
    · refine ⟨9221120237041090560, (i : Int), Ev.succ ?_, .inr rfl⟩
      simp only [order_Greatest.l0]
      rw [rd_at hi]
      exact Ev.pos (by omega) (Ev.pos (by omega) (Ev.pos (by omega) (Ev.bind hk (Ev.pos k5 (Ev.now _)))))
    · have go : ∀ m j : Int, 0 ≤ m → m < 9223372036854775808 → ∃ m' j', Ev (fun K => order_Greatest.l0 K m j l l.length ((i : Int) + 1)) (m', j') ∧ ((0 ≤ m' ∧ m' < 9223372036854775808) ∨ m' = 9221120237041090560) := fun m j a b => ih (i + 1) (by omega) (by omega) m j a b
      by_cases c1 : j < 0
      · obtain ⟨m', j', ev, q⟩ := go (l[i] % 9223372036854775808) i hm.1 hm.2
        refine ⟨m', j', Ev.succ ?_, q⟩
        simp only [order_Greatest.l0]
        rw [rd_at hi, w64 (x := (i : Int) + 1) (by omega) (by omega)]
        exact Ev.pos (by omega) (Ev.pos (by omega) (Ev.pos (by omega) (Ev.bind hk (Ev.neg k5 (Ev.pos c1 (Ev.call ha ev))))))
      · by_cases c2 : l[i] % 9223372036854775808 > m
        · obtain ⟨m', j', ev, q⟩ := go (l[i] % 9223372036854775808) i hm.1 hm.2
          refine ⟨m', j', Ev.succ ?_, q⟩
          simp only [order_Greatest.l0]
          rw [rd_at hi, w64 (x := (i : Int) + 1) (by omega) (by omega)]
          exact Ev.pos (by omega) (Ev.pos (by omega) (Ev.pos (by omega) (Ev.bind hk (Ev.neg k5 (Ev.neg c1 (Ev.call ha (Ev.pos c2 (Ev.call ha ev))))))))
        · obtain ⟨m', j', ev, q⟩ := go m j m0 m1
          refine ⟨m', j', Ev.succ ?_, q⟩
          simp only [order_Greatest.l0]
          rw [rd_at hi, w64 (x := (i : Int) + 1) (by omega) (by omega)]
          exact Ev.pos (by omega) (Ev.pos (by omega) (Ev.pos (by omega) (Ev.bind hk (Ev.neg k5 (Ev.neg c1 (Ev.call ha (Ev.neg c2 ev)))))))
theorem greatest_ev {l : List Int} (hl : ∀ x ∈ l, U x) (hn : l.length ≤ 1000000) : ∃ m j, Ev (fun K => order_Greatest.f K l) (m, j) ∧ U m := by
  obtain ⟨m, j, ev, q⟩ := greatest_l0 hl hn l.length 0 (by omega) (by omega) 0 (-1) (by decide) (by decide)
  refine ⟨m, j, ev, ?_⟩
  rcases q with ⟨a, b⟩ | rfl
  · exact ⟨a, by omega⟩
  · exact ⟨by decide, by decide⟩
theorem power_l0 : ∀ t : Nat, ∀ n e : Int, n.toNat ≤ t → 0 < n → n < 9007199254740992 → -2000 ≤ e → e + blen n ≤ 2000 → ∃ e', Ev (fun K => vec_Power.l0 K n e) (e', true) ∧ -2000 ≤ e' ∧ e' ≤ 2000 := by
  intro t
  induction t with
  | zero => intro n e h1 h2; omega
  | succ t ih =>
    intro n e h1 h2 h3 h4 h5
    have b1 := blen_pos h2
    by_cases c : n > 1
    · have hb := blen_shift (x := n) (s := 1) (by decide) (by rw [p2_1]; omega)
      rw [p2_1] at hb
      obtain ⟨e', ev, q⟩ := ih (n / 2) (e + 1) (by omega) (by omega) (by omega) (by omega) (by omega)
      refine ⟨e', Ev.succ ?_, q⟩
      simp only [vec_Power.l0]
      rw [w64 (x := e + 1) (by omega) (by omega)]
      exact Ev.pos c ev
    · refine ⟨e, Ev.succ ?_, h4, by omega⟩
      simp only [vec_Power.l0]
      exact Ev.neg c (Ev.now _)
theorem power_ev {l : List Int} (hl : ∀ x ∈ l, U x) (hn : l.length ≤ 1000000) : ∃ e ok, Ev (fun K => vec_Power.f K l) (e, ok) ∧ -2000 ≤ e ∧ e ≤ 2000 := by
  obtain ⟨m, j, ev, u⟩ := greatest_ev hl hn
  by_cases h : 0 < m % 9223372036854775808 ∧ m % 9223372036854775808 < 9218868437227405312
  · have hp := word_Parts_ev u h.1 h.2
    have mp := mant_pos h.1
    have ml := mant_lt (m := m % 9223372036854775808)
    have hfin : fin (m % 9223372036854775808) := by unfold fin mag INF; omega
    obtain ⟨e1, e2⟩ := fin_expo hfin
    have hmag : mag (m % 9223372036854775808) = m % 9223372036854775808 := by unfold mag; omega
    rw [hmag] at e1 e2
    have hb : blen (mant (m % 9223372036854775808)) ≤ 53 := blen_le (by decide) (by rw [show p2 53 = 9007199254740992 from by decide]; exact ml)
    obtain ⟨e', ev2, q⟩ := power_l0 _ (mant (m % 9223372036854775808)) (expo (m % 9223372036854775808)) (Nat.le_refl _) mp ml (by omega) (by omega)
    refine ⟨e', true, ?_, q⟩
    unfold vec_Power.f
    exact Ev.bind ev (Ev.bind hp (Ev.neg (by omega) ev2))
  · refine ⟨0, false, ?_, by decide, by decide⟩
    unfold vec_Power.f
    exact Ev.bind ev (Ev.bind (word_Parts_none u (by omega)) (Ev.pos rfl (Ev.now _)))
theorem greatest_f0 {l : List Int} (hl : ∀ x ∈ l, U x ∧ fin x) (hn : l.length ≤ 1000000) : ∀ t i : Nat, l.length - i = t → i ≤ l.length → ∀ m j : Int, 0 ≤ m → m < INF → (j < 0 → m = 0) →
    ∃ m' j', Ev (fun K => order_Greatest.l0 K m j l l.length i) (m', j') ∧ m ≤ m' ∧ m' < INF ∧ (∀ k (h : k < l.length), i ≤ k → mag l[k] ≤ m') ∧ (m' = m ∨ ∃ x ∈ l, mag x = m') := by
  intro t
  induction t with
  | zero =>
    intro i h1 h2 m j m0 m1 hj
    refine ⟨m, j, Ev.succ ?_, Int.le_refl _, m1, fun k h hk => by omega, .inl rfl⟩
    simp only [order_Greatest.l0]
    exact Ev.neg (by omega) (Ev.now _)
  | succ t ih =>
    intro i h1 h2 m j m0 m1 hj
    have hi : i < l.length := by omega
    obtain ⟨hu, hf⟩ := hl _ (List.getElem_mem hi)
    have hm := mag_lt (a := l[i])
    have hk := word_Kind_ev hu
    have ha := word_Abs_eq hu
    have e0 : l[i] % 9223372036854775808 = mag l[i] := rfl
    rw [e0] at hk ha
    have k5 : ¬ kindOf (mag l[i]) = 5 := fun h => by have := (kind5 hm.1).mp h; unfold fin INF at hf; omega
    have go : ∀ m2 j2 : Int, 0 ≤ m2 → m2 < INF → (j2 < 0 → m2 = 0) → m ≤ m2 → mag l[i] ≤ m2 → (m2 = m ∨ m2 = mag l[i]) →
        (∀ r, Ev (fun K => order_Greatest.l0 K m2 j2 l l.length ((i : Int) + 1)) r → Ev (fun K => order_Greatest.l0 K m j l l.length i) r) →
        ∃ m' j', Ev (fun K => order_Greatest.l0 K m j l l.length i) (m', j') ∧ m ≤ m' ∧ m' < INF ∧ (∀ k (h : k < l.length), i ≤ k → mag l[k] ≤ m') ∧ (m' = m ∨ ∃ x ∈ l, mag x = m') := by
      intro m2 j2 a1 a2 a3 a4 a5 a6 step
      obtain ⟨m', j', ev, b1, b2, b3, b4⟩ := ih (i + 1) (by omega) (by omega) m2 j2 a1 a2 a3
      refine ⟨m', j', step _ ev, by omega, b2, fun k h hk => ?_, ?_⟩
      · by_cases c : k = i
        · subst c; omega
        · exact b3 k h (by omega)
      · rcases b4 with b4 | b4
        · rcases a6 with a6 | a6
          · exact .inl (by omega)
          · exact .inr ⟨_, List.getElem_mem hi, by omega⟩
        · exact .inr b4
    by_cases c1 : j < 0
    · have := hj c1
      refine go (mag l[i]) i hm.1 hf (by omega) (by omega) (Int.le_refl _) (.inr rfl) fun r ev => ?_
      refine Ev.succ ?_
      simp only [order_Greatest.l0]
      rw [rd_at hi, w64 (x := (i : Int) + 1) (by omega) (by omega)]
      exact Ev.pos (by omega) (Ev.pos (by omega) (Ev.pos (by omega) (Ev.bind hk (Ev.neg k5 (Ev.pos c1 (Ev.call ha ev))))))
    · by_cases c2 : mag l[i] > m
      · refine go (mag l[i]) i hm.1 hf (by omega) (by omega) (Int.le_refl _) (.inr rfl) fun r ev => ?_
        refine Ev.succ ?_
        simp only [order_Greatest.l0]
        rw [rd_at hi, w64 (x := (i : Int) + 1) (by omega) (by omega)]
        exact Ev.pos (by omega) (Ev.pos (by omega) (Ev.pos (by omega) (Ev.bind hk (Ev.neg k5 (Ev.neg c1 (Ev.call ha (Ev.pos c2 (Ev.call ha ev))))))))
      · refine go m j m0 m1 hj (Int.le_refl _) (by omega) (.inl rfl) fun r ev => ?_
        refine Ev.succ ?_
        simp only [order_Greatest.l0]
        rw [rd_at hi, w64 (x := (i : Int) + 1) (by omega) (by omega)]
        exact Ev.pos (by omega) (Ev.pos (by omega) (Ev.pos (by omega) (Ev.bind hk (Ev.neg k5 (Ev.neg c1 (Ev.call ha (Ev.neg c2 ev)))))))
/-- The greatest of numbers. -/
theorem greatest_fin {l : List Int} (hl : ∀ x ∈ l, U x ∧ fin x) (hn : l.length ≤ 1000000) : ∃ m j, Ev (fun K => order_Greatest.f K l) (m, j) ∧ 0 ≤ m ∧ m < INF ∧ (∀ x ∈ l, mag x ≤ m) ∧ (m = 0 ∨ ∃ x ∈ l, mag x = m) := by
  obtain ⟨m, j, ev, a1, a2, a3, a4⟩ := greatest_f0 hl hn l.length 0 (by omega) (by omega) 0 (-1) (by decide) (by decide) (fun _ => rfl)
  refine ⟨m, j, ev, a1, a2, fun x hx => ?_, ?_⟩
  · obtain ⟨k, h, rfl⟩ := List.getElem_of_mem hx
    exact a3 k h (by omega)
  · rcases a4 with h | h
    · exact .inl h
    · exact .inr h
theorem pw_between {v : Rat} {e e' : Int} (h1 : pw e ≤ v) (h2 : v < pw (e + 1)) (h3 : pw e' ≤ v) (h4 : v < pw (e' + 1)) : e = e' := by
  have a : ¬ e + 1 ≤ e' := fun h => by have := pw_mono h; grind
  have b : ¬ e' + 1 ≤ e := fun h => by have := pw_mono h; grind
  omega
theorem power_f0 {v : Rat} : ∀ t : Nat, ∀ n e : Int, n.toNat ≤ t → 0 < n → n < 9007199254740992 → -2000 ≤ e → e + blen n ≤ 2000 → (n : Rat) * pw e ≤ v → v < ((n + 1 : Int) : Rat) * pw e →
    ∃ e', Ev (fun K => vec_Power.l0 K n e) (e', true) ∧ -2000 ≤ e' ∧ e' ≤ 2000 ∧ pw e' ≤ v ∧ v < pw (e' + 1) := by
  intro t
  induction t with
  | zero => intro n e h1 h2; omega
  | succ t ih =>
    intro n e h1 h2 h3 h4 h5 h6 h7
    have b1 := blen_pos h2
    by_cases c : n > 1
    · have hb := blen_shift (x := n) (s := 1) (by decide) (by rw [p2_1]; omega)
      rw [p2_1] at hb
      have hp := pw_pos e
      have hs := pw_succ e
      have k1 : (n / 2 : Int) * pw (e + 1) ≤ v := by
        have : ((2 * (n / 2) : Int) : Rat) * pw e ≤ (n : Rat) * pw e := mul_pw_le.mpr (by omega)
        rw [hs]; push_cast at this; grind
      have k2 : v < ((n / 2 + 1 : Int) : Rat) * pw (e + 1) := by
        have : ((n + 1 : Int) : Rat) * pw e ≤ ((2 * (n / 2 + 1) : Int) : Rat) * pw e := mul_pw_le.mpr (by omega)
        rw [hs]; push_cast at this h7 ⊢; grind
      obtain ⟨e', ev, q⟩ := ih (n / 2) (e + 1) (by omega) (by omega) (by omega) (by omega) (by omega) k1 k2
      refine ⟨e', Ev.succ ?_, q⟩
      simp only [vec_Power.l0]
      rw [w64 (x := e + 1) (by omega) (by omega)]
      exact Ev.pos c ev
    · obtain rfl : n = 1 := by omega
      refine ⟨e, Ev.succ ?_, h4, by omega, by simpa using h6, ?_⟩
      · simp only [vec_Power.l0]
        exact Ev.neg c (Ev.now _)
      · rw [pw_succ]; push_cast at h7; grind
/-- The power of two beneath the greatest of numbers, if that isn't zero. -/
theorem power_fin {l : List Int} (hl : ∀ x ∈ l, U x ∧ fin x) (hn : l.length ≤ 1000000) : ∃ m j, Ev (fun K => order_Greatest.f K l) (m, j) ∧ 0 ≤ m ∧ m < INF ∧ (∀ x ∈ l, mag x ≤ m) ∧ (m = 0 ∨ ∃ x ∈ l, mag x = m) ∧
    (m = 0 → Ev (fun K => vec_Power.f K l) (0, false)) ∧
    (0 < m → ∃ e, Ev (fun K => vec_Power.f K l) (e, true) ∧ -2000 ≤ e ∧ e ≤ 2000 ∧ pw e ≤ vm m ∧ vm m < pw (e + 1)) := by
  obtain ⟨m, j, ev, a1, a2, a3, a4⟩ := greatest_fin hl hn
  have um : U m := ⟨a1, by have : INF < 18446744073709551616 := by decide
                           omega⟩
  have hI : INF < 9223372036854775808 := by decide
  have hmag : m % 9223372036854775808 = m := by omega
  refine ⟨m, j, ev, a1, a2, a3, a4, fun h => ?_, fun h => ?_⟩
  · unfold vec_Power.f
    exact Ev.bind ev (Ev.bind (word_Parts_none um (.inl (by omega))) (Ev.pos rfl (Ev.now _)))
  · have hp := word_Parts_ev um (by omega) (by rw [hmag]; exact a2)
    rw [hmag] at hp
    have mp := mant_pos h
    have ml := mant_lt (m := m)
    have hfin : fin m := by unfold fin mag; omega
    obtain ⟨e1, e2⟩ := fin_expo hfin
    have hmm : mag m = m := hmag
    rw [hmm] at e1 e2
    have hb : blen (mant m) ≤ 53 := blen_le (by decide) (by rw [show p2 53 = 9007199254740992 from by decide]; exact ml)
    have hp2 := pw_pos (expo m)
    obtain ⟨e', ev2, q⟩ := power_f0 (v := vm m) _ (mant m) (expo m) (Nat.le_refl _) mp ml (by omega) (by omega) Rat.le_refl (by unfold vm; exact mul_pw_lt.mpr (by omega))
    refine ⟨e', ?_, q⟩
    unfold vec_Power.f
    exact Ev.bind ev (Ev.bind hp (Ev.neg (by simp; omega) ev2))

theorem word_Flip_eq {a : Int} (h : U a) : word_Flip.f a = some (flip a) := by unfold word_Flip.f flip; rw [u64_xor h.1 h.2]

theorem sub_of_add {a b : Int} (hb : U b) {r : Int × Int} (h : Ev (fun k => soft_Add.f k a (flip b)) r) : Ev (fun k => soft_Sub.f k a b) r := by
  unfold soft_Sub.f
  exact Ev.call (word_Flip_eq hb) (Ev.bind h (Ev.now _))

noncomputable def cA (F a b : Int) : Int × Int := (av a b, Go.bits .or .u8 F (aP a b).2)
noncomputable def cS (F a b : Int) : Int × Int := (av a (flip b), Go.bits .or .u8 F (aP a (flip b)).2)
noncomputable def cM (F a b : Int) : Int × Int := (mv a b, Go.bits .or .u8 F (mP a b).2)
theorem cA_ev {F a b : Int} (ha : U a) (hb : U b) : Ev (fun k => soft_Calc_Add.f k F a b) (cA F a b) := by
  unfold soft_Calc_Add.f
  exact Ev.bind (aP_ev ha hb) (Ev.call rfl (Ev.now _))
theorem cM_ev {F a b : Int} (ha : U a) (hb : U b) : Ev (fun k => soft_Calc_Mul.f k F a b) (cM F a b) := by
  unfold soft_Calc_Mul.f
  exact Ev.bind (mP_ev ha hb) (Ev.call rfl (Ev.now _))
theorem cS_ev {F a b : Int} (ha : U a) (hb : U b) : Ev (fun k => soft_Calc_Sub.f k F a b) (cS F a b) := by
  unfold soft_Calc_Sub.f
  exact Ev.bind (sub_of_add hb (aP_ev ha (U_flip hb))) (Ev.call rfl (Ev.now _))
theorem cA_U {F a b : Int} (ha : U a) (hb : U b) : U (cA F a b).1 := av_U ha hb
theorem cS_U {F a b : Int} (ha : U a) (hb : U b) : U (cS F a b).1 := av_U ha (U_flip hb)
theorem cM_U {F a b : Int} (ha : U a) (hb : U b) : U (cM F a b).1 := mv_U ha hb
end Gim
namespace Gim
open Go Go.RowKit Go.Proofs.YtejkoahgmnejkaaDoorW.PrintWords Go.Proofs.YtejkoahgmnejkaaDoorW.PrintLast Go.Proofs.YtejkoahgmnejkaaDoorW.PrintMore Go.Proofs.YtejkoahgmnejkaaDoor.F
set_option linter.unusedVariables false
set_option linter.unusedSectionVars false

theorem at_words {R C : Nat} {d : List Int} (h : Words (R * C) d) (i k : Int) : U (at4 R C C d i k) := at_U h.2 i k
theorem scale_words {R C : Nat} (hR : R ≤ 100) (hC : C ≤ 100) {d : List Int} (h : Words (R * C) d) (n : Int) : ∃ L f, Ev (fun K => mat_Matrix_Scale.f K R C C d n) ((R : Int), (C : Int), (C : Int), L, f) ∧ Words (R * C) L := by
  have ev := mat_scale_ev hR hC (s := (C : Int)) (n := n) (by omega) h.2
  refine ⟨_, _, ev, by rw [List.length_map, gat_length], fun x hx => ?_⟩
  obtain ⟨y, hy, rfl⟩ := List.mem_map.mp hx
  obtain ⟨r, f, e2, sr⟩ := more_Scale_ev (gat_U (fun i k => at_words h i k) y hy) n
  rw [Ev.det (scl_ev (gat_U (fun i k => at_words h i k) y hy)) e2]
  exact sr.range (gat_U (fun i k => at_words h i k) y hy)
theorem scl_U {n x : Int} (hx : U x) : U (scl n x).1 := by
  obtain ⟨r, f, e2, sr⟩ := more_Scale_ev hx n
  rw [Ev.det (scl_ev hx) e2]
  exact sr.range hx
section
variable {p q : Nat} (hp : p ≤ 3) (hq : q ≤ 3) {A B C : List Int} (hA : Words (p * p) A) (hB : Words (q * q) B) (hC : Words (p * q) C) {minus : Bool}
abbrev PK := Bool × Int × Int × Int × Int × Int × Int × Int × Int × Int × Int × Int × Int × Int × Int × Int × Bool × Int × (List Int) × (List Int) × (List Int) × (List Int) × (List Int)
/-- What one block leaves. -/
def pk (p q : Nat) (A B C : List Int) (minus fl : Bool) (e pw dn : Int) (X Y : List Int) : PK :=
  (fl, e, (p : Int), (q : Int), (q : Int), 0, pw, (p : Int), (p : Int), (p : Int), (q : Int), (q : Int), (q : Int), (p : Int), (q : Int), (q : Int), minus, dn, X, A, B, C, Y)
/-- What one block comes to: an error, or new numbers. -/
structure Blk (p q : Nat) (fl : Bool) (e dn : Int) (X Y : List Int) : Prop where
  x : Words (p * q) (if fl then Y else X)
  y : e = 0 → 0 ≤ dn ∧ dn ≤ 900
/-- One block, from some place on: it comes to something, whatever the power is that is handed on. -/
def Res (p q : Nat) (A B C : List Int) (minus : Bool) (f : Int → Nat → Option PK) : Prop := ∃ fl e dn X Y, Blk p q fl e dn X Y ∧ ∀ pw, Ev (f pw) (pk p q A B C minus fl e pw dn X Y)
theorem Res.step {f g : Int → Nat → Option PK} (h : Res p q A B C minus f) (i : ∀ pw ρ, Ev (f pw) ρ → Ev (g pw) ρ) : Res p q A B C minus g := by
  obtain ⟨fl, e, dn, X, Y, hb, ev⟩ := h
  exact ⟨fl, e, dn, X, Y, hb, fun pw => i pw _ (ev pw)⟩
theorem wadd0 {n : Nat} (hn : n ≤ 100) : wrap64 ((n : Int) + 0) = (n : Int) := by rw [w64 (by omega) (by omega)]; omega
theorem wadd1 {n : Nat} (hn : n ≤ 100) : wrap64 ((n : Int) + 1) = ((n + 1 : Nat) : Int) := by rw [w64 (by omega) (by omega)]; omega
theorem z0_ : wrap64 (wrap64 (0 * 1) + 0) = 0 := by rw [w64 (x := 0 * 1) (by decide) (by decide), w64 (by decide) (by decide)]; rfl
include hp hq hA hB hC
variable {r k : Nat} (hr : r < p) (hk : k < q)
include hr hk
theorem blk_j5 {X : List Int} (hX : Words (p * q) X) {dn : Int} (d0 : 0 ≤ dn) (d1 : dn ≤ 900) {g : Int} (g0 : -2000 ≤ g) (g1 : g ≤ 2000) (t : Bool) (ht : t = true → 0 ≤ g) :
    Res p q A B C minus (fun pw K => sylv_solver_block.j5 K g t p q q 0 pw p p p q q q p q q minus dn X A B C) := by
  cases t with
  | false =>
    refine ⟨false, 0, dn, X, [], ⟨hX, fun _ => ⟨d0, d1⟩⟩, fun pw => Ev.succ ?_⟩
    simp only [sylv_solver_block.j5]
    exact Ev.neg (by simp) (Ev.now _)
  | true =>
    have g2 := ht rfl
    obtain ⟨L, f, ev, hL⟩ := scale_words (R := p) (C := q) (by omega) (by omega) hX (-g)
    have ed : wrap64 (dn + g) = dn + g := w64 (by omega) (by omega)
    have eg : wrap64 (-g) = -g := w64 (by omega) (by omega)
    by_cases c : dn + g > 900
    · refine ⟨true, 10, dn + g, X, L, ⟨hL, by omega⟩, fun pw => Ev.succ ?_⟩
      simp only [sylv_solver_block.j5]
      rw [ed, eg]
      exact Ev.pos (by trivial) (Ev.bind ev (Ev.pos c (Ev.now _)))
    · refine ⟨true, 0, dn + g, X, L, ⟨hL, by omega⟩, fun pw => Ev.succ ?_⟩
      simp only [sylv_solver_block.j5]
      rw [ed, eg]
      exact Ev.pos (by trivial) (Ev.bind ev (Ev.neg c (Ev.now _)))
theorem blk_l2 {X : List Int} (hX : Words (p * q) X) {w : Int} (hw : U w) {dn : Int} (d0 : 0 ≤ dn) (d1 : dn ≤ 900) :
    Res p q A B C minus (fun pw K => sylv_solver_block.l2 K r k 1 [w] 1 0 p q q 0 pw p p p q q q p q q minus dn X A B C) := by
  have hX2 : Words (p * q) (set4 p q q X r k w) := hX.set4 _ _ _ _ _ hw
  have h9 : p * q ≤ 9 := Nat.mul_le_mul hp hq
  obtain ⟨g, ok, pev, g0, g1⟩ := power_ev hX2.2 (by rw [hX2.1]; omega)
  refine (blk_j5 hp hq hA hB hC hr hk (minus := minus) hX2 d0 d1 g0 g1 (if ok then decide (g > 100) else false) (by cases ok <;> simp; omega)).step fun pw ρ J => Ev.succ ?_
  simp only [sylv_solver_block.l2]
  refine Ev.pos (by decide) (Ev.succ ?_)
  simp only [sylv_solver_block.l4]
  rw [z0_, wadd0 (n := r) (by omega), wadd0 (n := k) (by omega), W01]
  refine Ev.pos (by decide) (Ev.pos (by decide) (Ev.pos (by simp) (Ev.call (set_eq (Sm.nat (by omega) (by omega)) X r k _) (Ev.succ ?_))))
  simp only [sylv_solver_block.l4]
  refine Ev.neg (by decide) (Ev.succ ?_)
  simp only [sylv_solver_block.l2]
  rw [W01]
  refine Ev.neg (by decide) (Ev.bind pev ?_)
  cases ok with
  | true => exact Ev.pos (by trivial) J
  | false => exact Ev.neg (by simp) J
theorem blk_end {X : List Int} (hX : Words (p * q) X) {dn : Int} (d0 : 0 ≤ dn) (d1 : dn ≤ 900) {s F M : Int} (hs : U s) (hM : U M) :
    Res p q A B C minus (fun pw K => sylv_solver_block.l1 K r ((r + 1 : Nat) : Int) k 1 1 [s] 0 1 p q q 0 pw p p p q q q p q q minus dn X A B C F 1 1 1 [M]) := by
  obtain ⟨o, made, e, F', h, pev⟩ := pivot1 (F := F) hM hs
  rcases h with ⟨rfl, w, rfl, hw⟩ | rfl
  · refine (blk_l2 hp hq hA hB hC hr hk (minus := minus) hX hw d0 d1).step fun pw ρ ev => Ev.succ ?_
    simp only [sylv_solver_block.l1]
    rw [W01]
    refine Ev.neg (by decide) (Ev.succ ?_)
    simp only [sylv_solver_block.l0]
    exact Ev.neg (by decide) (Ev.bind pev (Ev.pos rfl ev))
  · refine ⟨false, 6, dn, X, [], ⟨hX, fun h => absurd h (by decide)⟩, fun pw => Ev.succ ?_⟩
    simp only [sylv_solver_block.l1]
    rw [W01]
    refine Ev.neg (by decide) (Ev.succ ?_)
    simp only [sylv_solver_block.l0]
    exact Ev.neg (by decide) (Ev.bind pev (Ev.neg (fun h : (6 : Int) = 0 => absurd h (by decide)) (Ev.now _)))
theorem blk_l7 {X : List Int} (hX : Words (p * q) X) {dn : Int} (d0 : 0 ≤ dn) (d1 : dn ≤ 900) {M : Int} (hM : U M) : ∀ t i : Nat, k - i = t → i ≤ k → ∀ s F, U s →
    Res p q A B C minus (fun pw K => sylv_solver_block.l7 K r ((r + 1 : Nat) : Int) k 1 1 [] 0 0 s i p q q 0 pw p p p q q q p q q minus dn X A B C F 1 1 1 [M]) := by
  intro t
  induction t with
  | zero =>
    intro i h1 h2 s F hs
    refine (blk_end hp hq hA hB hC hr hk (minus := minus) hX d0 d1 (F := F) hs hM).step fun pw ρ ev => Ev.succ ?_
    simp only [sylv_solver_block.l7]
    rw [W01]
    exact Ev.neg (by omega) (Ev.pos (by simp) ev)
  | succ t ih =>
    intro i h1 h2 s F hs
    have u1 := at_words (R := p) (C := q) hX (r : Int) (i : Int)
    have u2 := at_words (R := q) (C := q) hB (i : Int) (k : Int)
    have m1 := cM_U (F := F) u1 u2
    cases minus with
    | true =>
      refine (ih (i + 1) (by omega) (by omega) (cA (cM F (at4 p q q X r i) (at4 q q q B i k)).2 s (cM F (at4 p q q X r i) (at4 q q q B i k)).1).1 (cA (cM F (at4 p q q X r i) (at4 q q q B i k)).2 s (cM F (at4 p q q X r i) (at4 q q q B i k)).1).2 (cA_U hs m1)).step fun pw ρ ev => Ev.succ ?_
      simp only [sylv_solver_block.l7]
      rw [wadd0 (n := r) (by omega), wadd0 (n := k) (by omega), wadd1 (n := i) (by omega)]
      exact Ev.pos (by omega) (Ev.call (at_eq (Sm.nat (by omega) (by omega)) X r i) (Ev.call (at_eq (Sm.nat (by omega) (by omega)) B i k) (Ev.bind (cM_ev u1 u2) (Ev.pos (by trivial) (Ev.bind (cA_ev hs m1) ev)))))
    | false =>
      refine (ih (i + 1) (by omega) (by omega) (cS (cM F (at4 p q q X r i) (at4 q q q B i k)).2 s (cM F (at4 p q q X r i) (at4 q q q B i k)).1).1 (cS (cM F (at4 p q q X r i) (at4 q q q B i k)).2 s (cM F (at4 p q q X r i) (at4 q q q B i k)).1).2 (cS_U hs m1)).step fun pw ρ ev => Ev.succ ?_
      simp only [sylv_solver_block.l7]
      rw [wadd0 (n := r) (by omega), wadd0 (n := k) (by omega), wadd1 (n := i) (by omega)]
      exact Ev.pos (by omega) (Ev.call (at_eq (Sm.nat (by omega) (by omega)) X r i) (Ev.call (at_eq (Sm.nat (by omega) (by omega)) B i k) (Ev.bind (cM_ev u1 u2) (Ev.neg (by simp) (Ev.bind (cS_ev hs m1) ev)))))
theorem blk_l6 {X : List Int} (hX : Words (p * q) X) {dn : Int} (d0 : 0 ≤ dn) (d1 : dn ≤ 900) {M : Int} (hM : U M) : ∀ t i : Nat, p - i = t → ∀ s F, U s →
    Res p q A B C minus (fun pw K => sylv_solver_block.l6 K r ((r + 1 : Nat) : Int) k 1 1 [] 0 0 s i p q q 0 pw p p p q q q p q q minus dn X A B C F 1 1 1 [M]) := by
  intro t
  induction t with
  | zero =>
    intro i h1 s F hs
    refine (blk_l7 hp hq hA hB hC hr hk (minus := minus) hX d0 d1 hM k 0 (by omega) (by omega) s F hs).step fun pw ρ ev => Ev.succ ?_
    simp only [sylv_solver_block.l6]
    exact Ev.neg (by omega) ev
  | succ t ih =>
    intro i h1 s F hs
    have u1 := at_words (R := p) (C := p) hA (r : Int) (i : Int)
    have u2 := at_words (R := p) (C := q) hX (i : Int) (k : Int)
    have m1 := cM_U (F := F) u1 u2
    refine (ih (i + 1) (by omega) (cS (cM F (at4 p p p A r i) (at4 p q q X i k)).2 s (cM F (at4 p p p A r i) (at4 p q q X i k)).1).1 (cS (cM F (at4 p p p A r i) (at4 p q q X i k)).2 s (cM F (at4 p p p A r i) (at4 p q q X i k)).1).2 (cS_U hs m1)).step fun pw ρ ev => Ev.succ ?_
    simp only [sylv_solver_block.l6]
    rw [wadd0 (n := r) (by omega), wadd0 (n := k) (by omega), wadd1 (n := i) (by omega)]
    exact Ev.pos (by omega) (Ev.call (at_eq (Sm.nat (by omega) (by omega)) A r i) (Ev.call (at_eq (Sm.nat (by omega) (by omega)) X i k) (Ev.bind (cM_ev u1 u2) (Ev.bind (cS_ev hs m1) ev))))
theorem blk_l5 {X : List Int} (hX : Words (p * q) X) {dn : Int} (d0 : 0 ≤ dn) (d1 : dn ≤ 900) {M : Int} (hM : U M) (F : Int) :
    Res p q A B C minus (fun pw K => sylv_solver_block.l5 K r ((r + 1 : Nat) : Int) k 1 1 [] 0 0 0 0 p q q 0 pw p p p q q q p q q minus dn X A B C F 1 1 1 [M]) := by
  have u2 := at_words (R := q) (C := q) hB (k : Int) (k : Int)
  have u3 := at_words (R := p) (C := q) hC (r : Int) (k : Int)
  have ed : wrap64 (-dn) = -dn := w64 (by omega) (by omega)
  have last : ∀ M F, U M → Res p q A B C minus (fun pw K => sylv_solver_block.l5 K r ((r + 1 : Nat) : Int) k 1 1 [] 0 0 0 1 p q q 0 pw p p p q q q p q q minus dn X A B C F 1 1 1 [M]) := fun M F hM => by
    refine (blk_l6 hp hq hA hB hC hr hk (minus := minus) hX d0 d1 hM (p - (r + 1)) (r + 1) rfl (scl (-dn) (at4 p q q C r k)).1 F (scl_U u3)).step fun pw ρ ev => Ev.succ ?_
    simp only [sylv_solver_block.l5]
    rw [wadd0 (n := r) (by omega), wadd0 (n := k) (by omega), ed]
    exact Ev.neg (by decide) (Ev.call (at_eq (Sm.nat (by omega) (by omega)) C r k) (Ev.bind (scl_ev u3) ev))
  cases minus with
  | true =>
    refine (last (cA F M (flip (at4 q q q B k k))).1 (cA F M (flip (at4 q q q B k k))).2 (cA_U hM (U_flip u2))).step fun pw ρ ev => Ev.succ ?_
    simp only [sylv_solver_block.l5]
    rw [wadd0 (n := k) (by omega), z0_, W01]
    exact Ev.pos (by decide) (Ev.call (at_eq (Sm.nat (by omega) (by omega)) B k k) (Ev.pos (by trivial) (Ev.call (word_Flip_eq u2) (Ev.call (at11_eq M) (Ev.bind (cA_ev hM (U_flip u2)) (Ev.call (set11_eq M _) ev))))))
  | false =>
    refine (last (cA F M (at4 q q q B k k)).1 (cA F M (at4 q q q B k k)).2 (cA_U hM u2)).step fun pw ρ ev => Ev.succ ?_
    simp only [sylv_solver_block.l5]
    rw [wadd0 (n := k) (by omega), z0_, W01]
    exact Ev.pos (by decide) (Ev.call (at_eq (Sm.nat (by omega) (by omega)) B k k) (Ev.neg (by simp) (Ev.call (at11_eq M) (Ev.bind (cA_ev hM u2) (Ev.call (set11_eq M _) ev)))))
/-- One block of one row and one column. -/
theorem block_ev {X : List Int} (hX : Words (p * q) X) {dn : Int} (d0 : 0 ≤ dn) (d1 : dn ≤ 900) :
    Res p q A B C minus (fun pw K => sylv_solver_block.f K p q q X 0 pw p p p A q q q B p q q C minus dn r ((r + 1 : Nat) : Int) k ((k + 1 : Nat) : Int)) := by
  have u1 := at_words (R := p) (C := p) hA (r : Int) (r : Int)
  refine (blk_l5 hp hq hA hB hC hr hk (minus := minus) hX d0 d1 (cA_U (F := 0) U_zero u1) (cA 0 0 (at4 p p p A r r)).2).step fun pw ρ ev => ?_
  have er : wrap64 (((r + 1 : Nat) : Int) - r) = 1 := by rw [w64 (by omega) (by omega)]; omega
  have ek : wrap64 (((k + 1 : Nat) : Int) - k) = 1 := by rw [w64 (by omega) (by omega)]; omega
  have e1 : wrap64 (1 * 1) = 1 := by rw [w64 (by decide) (by decide)]; rfl
  unfold sylv_solver_block.f
  rw [er, ek, e1]
  refine Ev.call (new_eq (R := 1) (C := 1) (by decide) (by decide)) (Ev.pos (by decide) (Ev.pos (by decide) (Ev.succ ?_)))
  simp only [sylv_solver_block.l0]
  refine Ev.pos (by decide) (Ev.succ ?_)
  simp only [sylv_solver_block.l1]
  rw [z0_]
  refine Ev.pos (by decide) (Ev.succ ?_)
  simp only [sylv_solver_block.l3]
  rw [z0_, wadd0 (n := r) (by omega), W01]
  refine Ev.pos (by decide) (Ev.call (at11_eq 0) (Ev.call (at_eq (Sm.nat (by omega) (by omega)) A r r) (Ev.bind (cA_ev U_zero u1) (Ev.call (set11_eq 0 _) (Ev.succ ?_)))))
  simp only [sylv_solver_block.l3]
  exact Ev.neg (by decide) ev
end
section
variable {p q : Nat} (hp : p ≤ 3) (hq : q ≤ 3) {A B C : List Int} (hA : Words (p * p) A) (hB : Words (q * q) B) (hC : Words (p * q) C) {minus : Bool}
abbrev PS := Int × Int × Int × (List Int) × Int × Int × Int × (List Int) × (List Int) × (List Int)
/-- What an equation comes to. -/
def sk (p q : Nat) (ok : Bool) (X : List Int) (sc e pw : Int) (h0 h1 h2 : List Int) : PS := if ok then ((p : Int), (q : Int), (q : Int), X, sc, pw, 0, h0, h1, h2) else (0, 0, 0, [], 0, 0, e, h0, h1, h2)
def Sol (p q : Nat) (f : Int → List Int → List Int → List Int → Nat → Option PS) : Prop :=
  ∃ ok X sc e, (ok = true → Words (p * q) X ∧ U sc) ∧ (ok = false → e ≠ 0) ∧ ∀ pw h0 h1 h2, Ev (f pw h0 h1 h2) (sk p q ok X sc e pw h0 h1 h2)
theorem Sol.step {f g : Int → List Int → List Int → List Int → Nat → Option PS} (h : Sol p q f) (i : ∀ pw h0 h1 h2 ρ, Ev (f pw h0 h1 h2) ρ → Ev (g pw h0 h1 h2) ρ) : Sol p q g := by
  obtain ⟨ok, X, sc, e, h1, h2, ev⟩ := h
  exact ⟨ok, X, sc, e, h1, h2, fun pw a b c => i pw a b c _ (ev pw a b c)⟩
theorem end_eq {n i : Nat} (hn : n ≤ 3) (hi : i < n) : sylv_end.f (ups n) i n = some (((i + 1 : Nat) : Int)) := by
  unfold sylv_end.f
  rw [wadd1 (n := i) (by omega), ups_length]
  by_cases c : ((i + 1 : Nat) : Int) < (n : Int)
  · rw [if_pos c, if_pos (by omega), ups_rd (by omega)]
  · rw [if_neg c]; congr 1; omega
include hp hq hA hB hC
theorem sol_l1 {l : Nat} (hl : l < q) (next : ∀ X dn, Words (p * q) X → 0 ≤ dn → dn ≤ 900 → Sol p q (fun pw h0 h1 h2 K => sylv_Solve.l0 K (ups p) (ups q) q ((l + 1 : Nat) : Int) h0 h1 h2 p p p q q q p q q 0 pw p p p q q q p q q minus dn A B X C)) :
    ∀ n : Nat, n ≤ p → ∀ X dn, Words (p * q) X → 0 ≤ dn → dn ≤ 900 → Sol p q (fun pw h0 h1 h2 K => sylv_Solve.l1 K (ups p) (ups q) l ((n : Int) - 1) q h0 h1 h2 p p p q q q p q q 0 pw p p p q q q p q q minus dn A B X C) := by
  intro n
  induction n with
  | zero =>
    intro hn X dn hX d0 d1
    refine (next X dn hX d0 d1).step fun pw h0 h1 h2 ρ ev => Ev.succ ?_
    simp only [sylv_Solve.l1]
    rw [wadd1 (n := l) (by omega)]
    exact Ev.neg (by omega) ev
  | succ n ih =>
    intro hn X dn hX d0 d1
    obtain ⟨fl, e, dn', X', Y, hb, bev⟩ := block_ev hp hq hA hB hC (r := n) (k := l) (by omega) hl (minus := minus) hX d0 d1
    have en : ((n + 1 : Nat) : Int) - 1 = n := by omega
    have wn : wrap64 ((n : Int) - 1) = (n : Int) - 1 := w64 (by omega) (by omega)
    have run : ∀ {pw h0 h1 h2 ρ}, Ev (fun K => (if (pk p q A B C minus fl e pw dn' X' Y).1 = true then (if e = 0 then (sylv_Solve.l1 K (ups p) (ups q) l ((n : Int) - 1) q h0 h1 h2 p p p q q q p q q 0 pw p p p q q q p q q minus dn' A B Y C) else some (0, 0, 0, ([] : List Int), 0, 0, e, h0, h1, h2)) else
          (if e = 0 then (sylv_Solve.l1 K (ups p) (ups q) l ((n : Int) - 1) q h0 h1 h2 p p p q q q p q q 0 pw p p p q q q p q q minus dn' A B X' C) else some (0, 0, 0, ([] : List Int), 0, 0, e, h0, h1, h2)))) ρ →
        Ev (fun K => sylv_Solve.l1 K (ups p) (ups q) l (((n + 1 : Nat) : Int) - 1) q h0 h1 h2 p p p q q q p q q 0 pw p p p q q q p q q minus dn A B X C) ρ := by
      intro pw h0 h1 h2 ρ ev
      refine Ev.succ ?_
      simp only [sylv_Solve.l1]
      rw [en, wn, ups_rd (n := p) (by omega), ups_rd (n := q) hl]
      exact Ev.pos (by omega) (Ev.pos (by omega) (Ev.pos (by rw [ups_length]; omega) (Ev.call (end_eq hp (by omega)) (Ev.pos (by omega) (Ev.pos (by rw [ups_length]; omega) (Ev.call (end_eq hq hl) (Ev.bind (bev pw) ev)))))))
    by_cases he : e = 0
    · obtain ⟨e0, e1⟩ := hb.y he
      have hx := hb.x
      cases fl with
      | true => exact (ih (by omega) Y dn' hx e0 e1).step fun pw h0 h1 h2 ρ ev => run (Ev.pos rfl (Ev.pos he ev))
      | false => exact (ih (by omega) X' dn' hx e0 e1).step fun pw h0 h1 h2 ρ ev => run (Ev.neg (by simp [pk]) (Ev.pos he ev))
    · refine ⟨false, [], 0, e, by simp, fun _ => he, fun pw h0 h1 h2 => run ?_⟩
      cases fl with
      | true => exact Ev.pos rfl (Ev.neg he (Ev.now _))
      | false => exact Ev.neg (by simp [pk]) (Ev.neg he (Ev.now _))
theorem sol_l0 : ∀ t l : Nat, q - l = t → l ≤ q → ∀ X dn, Words (p * q) X → 0 ≤ dn → dn ≤ 900 → Sol p q (fun pw h0 h1 h2 K => sylv_Solve.l0 K (ups p) (ups q) q l h0 h1 h2 p p p q q q p q q 0 pw p p p q q q p q q minus dn A B X C) := by
  intro t
  induction t with
  | zero =>
    intro l e1 e2 X dn hX d0 d1
    have u1 : U 4607182418800017408 := ⟨by decide, by decide⟩
    have ed : wrap64 (-dn) = -dn := w64 (by omega) (by omega)
    refine ⟨true, X, (scl (-dn) 4607182418800017408).1, 0, fun _ => ⟨hX, scl_U u1⟩, by simp, fun pw h0 h1 h2 => Ev.succ ?_⟩
    simp only [sylv_Solve.l0]
    rw [ed]
    exact Ev.neg (by omega) (Ev.bind (scl_ev u1) (Ev.now _))
  | succ t ih =>
    intro l e1 e2 X dn hX d0 d1
    have ep : wrap64 (((ups p).length : Int) - 1) = (p : Int) - 1 := by rw [ups_length, w64 (by omega) (by omega)]
    refine (sol_l1 hp hq hA hB hC (minus := minus) (l := l) (by omega) (fun X dn hX d0 d1 => ih (l + 1) (by omega) (by omega) X dn hX d0 d1) p (Nat.le_refl _) X dn hX d0 d1).step fun pw h0 h1 h2 ρ ev => Ev.succ ?_
    simp only [sylv_Solve.l0]
    rw [ep]
    exact Ev.pos (by omega) ev
/-- The whole of an equation, all being made. -/
theorem sol_ev : Sol p q (fun pw h0 h1 h2 K => sylv_Solve.l0 K (ups p) (ups q) ((ups q).length : Int) 0 h0 h1 h2 p p p q q q p q q 0 pw p p p q q q p q q minus 0 A B (List.replicate (p * q) 0) C) := by
  refine (sol_l0 hp hq hA hB hC (minus := minus) q 0 (by omega) (by omega) _ 0 (Words.zeros _) (by decide) (by decide)).step fun pw h0 h1 h2 ρ ev => ?_
  rw [ups_length]
  exact ev
end

theorem mx_le {a b : Int} : a ≤ mx a b ∧ b ≤ mx a b ∧ (mx a b = a ∨ mx a b = b) := by unfold mx; split <;> omega
section
variable {R C : Nat} {s : Int} {d : List Int} (hR : R ≤ 100) (hC : C ≤ 100) (hs : s ≤ 1099511627776) (hu : ∀ x ∈ d, U x)
include hR hC hs hu
/-- So many places lie before. -/
def bef (i k j l : Nat) : Prop := j < i ∨ (j = i ∧ l < k)
/-- The greatest magnitude. -/
structure Most (R C : Nat) (s : Int) (d : List Int) (i k : Nat) (M : Int) : Prop where
  ge : ∀ j l : Nat, bef i k j l → j < R → l < C → mag (at4 R C s d j l) ≤ M
  at_ : M = 0 ∨ ∃ j l : Nat, j < R ∧ l < C ∧ M = mag (at4 R C s d j l)
  nn : 0 ≤ M
theorem Most.step {i k : Nat} {M : Int} (h : Most R C s d i k M) (hi : i < R) (hk : k < C) : Most R C s d i (k + 1) (mx M (mag (at4 R C s d i k))) := by
  obtain ⟨m1, m2, m3⟩ := mx_le (a := M) (b := mag (at4 R C s d i k))
  have hn := h.nn
  refine ⟨fun j l hb hj hl => ?_, ?_, by omega⟩
  · by_cases e : j = i ∧ l = k
    · rw [e.1, e.2]; exact m2
    · refine Int.le_trans (h.ge j l ?_ hj hl) m1
      unfold bef at hb ⊢; omega
  · rcases m3 with m3 | m3
    · rw [m3]; exact h.at_
    · exact .inr ⟨i, k, hi, hk, m3⟩
theorem Most.row {i : Nat} {M : Int} (h : Most R C s d i C M) : Most R C s d (i + 1) 0 M :=
  ⟨fun j l hb hj hl => h.ge j l (by unfold bef at hb ⊢; omega) hj hl, h.at_, h.nn⟩
abbrev Rs := Int × Int × Int × List Int × Int
theorem unit_l1 {Q : Rs → Prop} {i : Nat} (hi : i < R) (next : ∀ M, Most R C s d (i + 1) 0 M → ∃ ρ, Ev (fun K => mat_Matrix_Unit.l0 K M R ((i + 1 : Nat) : Int) R C s d) ρ ∧ Q ρ) :
    ∀ t k : Nat, C - k = t → k ≤ C → ∀ M, Most R C s d i k M → ∃ ρ, Ev (fun K => mat_Matrix_Unit.l1 K M i R i C k R C s d) ρ ∧ Q ρ := by
  intro t
  induction t with
  | zero =>
    intro k h1 h2 M hM
    obtain rfl : k = C := by omega
    obtain ⟨ρ, ev, q⟩ := next M (Most.row hR hC hs hu hM)
    refine ⟨ρ, Ev.succ ?_, q⟩
    simp only [mat_Matrix_Unit.l1]
    rw [w64 (x := (i : Int) + 1) (by omega) (by omega)]
    exact Ev.neg (by omega) ev
  | succ t ih =>
    intro k h1 h2 M hM
    obtain ⟨ρ, ev, q⟩ := ih (k + 1) (by omega) (by omega) _ (Most.step hR hC hs hu hM hi (by omega))
    refine ⟨ρ, Ev.succ ?_, q⟩
    simp only [mat_Matrix_Unit.l1]
    rw [w64 (x := (k : Int) + 1) (by omega) (by omega)]
    exact Ev.pos (by omega) (Ev.call (at_eq ⟨by omega, by omega, by omega⟩ _ _ _) (Ev.call (word_Abs_eq (at_U hu _ _)) ev))
theorem unit_l0 {Q : Rs → Prop} (last : ∀ M, Most R C s d R 0 M → ∃ ρ, Ev (fun K => mat_Matrix_Unit.l0 K M R R R C s d) ρ ∧ Q ρ) :
    ∀ t i : Nat, R - i = t → i ≤ R → ∀ M, Most R C s d i 0 M → ∃ ρ, Ev (fun K => mat_Matrix_Unit.l0 K M R i R C s d) ρ ∧ Q ρ := by
  intro t
  induction t with
  | zero =>
    intro i h1 h2 M hM
    obtain rfl : i = R := by omega
    exact last M hM
  | succ t ih =>
    intro i h1 h2 M hM
    obtain ⟨ρ, ev, q⟩ := unit_l1 hR hC hs hu (Q := Q) (i := i) (by omega) (fun M h => ih (i + 1) (by omega) (by omega) M h) C 0 (by omega) (by omega) M hM
    refine ⟨ρ, Ev.succ ?_, q⟩
    simp only [mat_Matrix_Unit.l0]
    exact Ev.pos (by omega) ev
/-- What Unit answers: all numbers times 2^-e, and e. -/
structure Unt (R C : Nat) (s : Int) (d : List Int) (M e : Int) (ρ : Rs) : Prop where
  r : ρ = ((R : Int), (C : Int), (C : Int), ρ.2.2.2.1, e)
  len : ρ.2.2.2.1.length = R * C
  at_ : ∀ i k : Nat, i < R → k < C → at4 R C C ρ.2.2.2.1 i k = (scl (-e) (at4 R C s d i k)).1
  zero : M = 0 → e = 0
  big : 0 < M → pw e ≤ vm M ∧ vm M < pw (e + 1) ∧ -1074 ≤ e ∧ e ≤ 1023
theorem unit_l2 {M : Int} (hM0 : 0 < M) (hM : M < INF) : ∀ t : Nat, ∀ n e : Int, n.toNat ≤ t → 0 < n → n < 9007199254740992 → (n : Rat) * pw e ≤ vm M → vm M < ((n + 1 : Int) : Rat) * pw e → -1074 ≤ e → e + blen n ≤ 1024 →
    ∃ ρ e', Ev (fun K => mat_Matrix_Unit.l2 K n e R C s d) ρ ∧ Unt R C s d M e' ρ := by
  intro t
  induction t with
  | zero => intro n e h1 h2; omega
  | succ t ih =>
    intro n e h1 h2 h3 h4 h5 h6 h7
    have b1 := blen_pos h2
    by_cases c : n > 1
    · have hb := blen_shift (x := n) (s := 1) (by decide) (by rw [p2_1]; omega)
      rw [p2_1] at hb
      have hp := pw_pos e
      have hs := pw_succ e
      obtain ⟨ρ, e', ev, q⟩ := ih (n / 2) (e + 1) (by omega) (by omega) (by omega) (by
        have : ((2 * (n / 2) : Int) : Rat) * pw e ≤ (n : Rat) * pw e := mul_pw_le.mpr (by omega)
        refine Rat.le_trans ?_ h4
        rw [hs]; push_cast at this; grind) (by
        have : ((n + 1 : Int) : Rat) * pw e ≤ ((2 * (n / 2 + 1) : Int) : Rat) * pw e := mul_pw_le.mpr (by omega)
        rw [hs]; push_cast at this h5 ⊢; grind) (by omega) (by omega)
      refine ⟨ρ, e', Ev.succ ?_, q⟩
      simp only [mat_Matrix_Unit.l2]
      rw [w64 (x := e + 1) (by omega) (by omega)]
      exact Ev.pos c ev
    · obtain rfl : n = 1 := by omega
      have bl1 : blen 1 = 1 := by decide
      have hm := mat_scale_ev hR hC hs hu (n := -e)
      refine ⟨((R : Int), (C : Int), (C : Int), (gat R C (atN R C s d)).map (fun x => (scl (-e) x).1), e), e, Ev.succ ?_, ⟨rfl, ?_, ?_, by omega, fun _ => ⟨?_, ?_, h6, by omega⟩⟩⟩
      · simp only [mat_Matrix_Unit.l2]
        rw [w64 (x := -e) (by omega) (by omega)]
        exact Ev.neg (by omega) (Ev.bind hm (Ev.now _))
      · simp [gat_length]
      · intro i k hi hk
        have hlen : ((gat R C (atN R C s d)).map (fun x => (scl (-e) x).1)).length = R * C := by rw [List.length_map, gat_length]
        show at4 R C C ((gat R C (atN R C s d)).map (fun x => (scl (-e) x).1)) i k = _
        have hp := place_lt hi hk
        rw [at_dense hlen hi hk, rd_map (by rw [gat_length]; exact hp)]
        have := rd_gat (g := atN R C s d) hi hk
        rw [rd_lt (by rw [gat_length]; exact hp)] at this
        rw [this]; rfl
      · rw [← Rat.one_mul (pw e)]; exact h4
      · rw [pw_succ]; push_cast at h5; grind
/-- Unit. -/
theorem unit_ev (hf : ∀ i k : Nat, i < R → k < C → fin (at4 R C s d i k)) : ∃ ρ M e, Ev (fun K => mat_Matrix_Unit.f K R C s d) ρ ∧ Most R C s d R 0 M ∧ Unt R C s d M e ρ := by
  unfold mat_Matrix_Unit.f
  have key := unit_l0 hR hC hs hu (Q := fun ρ => ∃ M e, Most R C s d R 0 M ∧ Unt R C s d M e ρ) (fun M hM => by
    have hlt : M < INF := by
      rcases hM.at_ with h | ⟨j, l, hj, hl, h⟩
      · rw [h]; decide
      · rw [h]; exact hf j l hj hl
    have hI : INF < 9223372036854775808 := by decide
    have hn := hM.nn
    have hU : U M := ⟨hn, by omega⟩
    have hmod : M % 9223372036854775808 = M := by omega
    by_cases h0 : M = 0
    · have hp := word_Parts_none hU (.inl (by omega))
      have hc := clone_ev (R := R) (C := C) (by omega) (by omega) hs d
      refine ⟨((R : Int), (C : Int), (C : Int), gat R C (atN R C s d), 0), Ev.succ ?_, M, 0, hM, ⟨rfl, gat_length, ?_, fun _ => rfl, fun h => by omega⟩⟩
      · simp only [mat_Matrix_Unit.l0]
        exact Ev.neg (by omega) (Ev.bind hp (Ev.pos rfl (Ev.bind hc (Ev.now _))))
      · intro i k hi hk
        show at4 R C C (gat R C (atN R C s d)) i k = _
        rw [at_gat hi hk]
        show at4 R C s d i k = _
        have u := at_U (r := R) (c := C) (s := s) hu i k
        have hm := hM.ge i k (by unfold bef; omega) hi hk
        have hm0 : mag (at4 R C s d i k) = 0 := by have := (mag_lt (a := at4 R C s d i k)).1; omega
        obtain ⟨r, f, ev, sr⟩ := more_Scale_ev u (-0)
        have hd := Ev.det (scl_ev u) ev
        rw [hd]
        unfold ScaleR at sr
        rw [if_neg (by rw [fin_nan (hf i k hi hk)]; decide), if_pos (.inr hm0)] at sr
        exact sr.1.symm
    · have hM0 : 0 < M := by omega
      have hp := word_Parts_ev hU (by omega) (by rw [hmod]; exact hlt)
      rw [hmod] at hp
      have mp := mant_pos hM0
      have ml := mant_lt (m := M)
      have hfin : fin M := by unfold fin mag; rw [hmod]; exact hlt
      obtain ⟨e1, e2⟩ := fin_expo hfin
      have hmag : mag M = M := hmod
      rw [hmag] at e1 e2
      have hb : blen (mant M) ≤ 53 := by have := mant_blen M; rwa [hmag] at this
      have hp2 := pw_pos (expo M)
      obtain ⟨ρ, e', ev, q⟩ := unit_l2 hR hC hs hu hM0 hlt (mant M).toNat (mant M) (expo M) (Nat.le_refl _) mp ml (Rat.le_refl) (by unfold vm; push_cast; grind) e1 (by omega)
      refine ⟨ρ, Ev.succ ?_, M, e', hM, q⟩
      simp only [mat_Matrix_Unit.l0]
      exact Ev.neg (by omega) (Ev.bind hp (Ev.neg (by omega) ev))) R 0 (by omega) (by omega) 0 ⟨fun j l hb _ _ => by unfold bef at hb; omega, .inl rfl, Int.le_refl _⟩
  obtain ⟨ρ, ev, M, e, h1, h2⟩ := key
  exact ⟨ρ, M, e, ev, h1, h2⟩

end
end Gim
