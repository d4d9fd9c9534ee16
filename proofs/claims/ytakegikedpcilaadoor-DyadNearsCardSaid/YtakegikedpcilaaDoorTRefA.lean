/- Layer 4's reference: what a sum is. -/
import Derived.Test.YtakegikedpcilaaDoorTRefW
import Derived.Test.YtakegikedpcilaaDoorFx14
namespace Gim
open Go Go.RowKit Go.Proofs.YtakegikedpcilaaDoorW.PrintWords Go.Proofs.YtakegikedpcilaaDoorW.PrintLast Go.Proofs.YtakegikedpcilaaDoorW.PrintMore Go.Proofs.YtakegikedpcilaaDoor.F
set_option linter.unusedVariables false

theorem ref_add_fin {a b : Int} (ha : U a) (hb : U b) (fa : fin a) (fb : fin b) : ∃ r f, Ev (fun k => gimbalref04_Add.j0 k a b false) (r, f) ∧ Rd (val a + val b) (neg a && neg b) r f := by
  have ia := not_inf fa
  have ib := not_inf fb
  have X0 := wh_nonneg a
  have Y0 := wh_nonneg b
  have XL := wh_blen fa
  have YL := wh_blen fb
  have lX := bl_length X0
  have lY := bl_length Y0
  have XR : wh a < p2 2100 := by
    by_cases h : 0 < wh a
    · exact Int.lt_of_lt_of_le (blen_pos h).2.2 (p2_le XL)
    · have := p2_pos 2100; omega
  have YR : wh b < p2 2100 := by
    by_cases h : 0 < wh b
    · exact Int.lt_of_lt_of_le (blen_pos h).2.2 (p2_le YL)
    · have := p2_pos 2100; omega
  have hp := p2_succ (a := 2100) (by decide)
  rw [show (2100 : Int) + 1 = 2101 from by decide] at hp
  have hv : val a + val b = ((sgd (neg a) (wh a) + sgd (neg b) (wh b) : Int) : Rat) * pw (-1074) := by rw [wh_val a, wh_val b]; push_cast; grind
  have start : ∀ r : Int × Int, Ev (fun k => gimbalref04_Add.j1 k a b (if mag a = 0 then decide (mag b = 0) else false)) r → Ev (fun k => gimbalref04_Add.j0 k a b false) r := by
    intro r h
    refine Ev.succ ?_
    simp only [gimbalref04_Add.j0]
    refine Ev.neg (by decide) (Ev.call (ref_IsInf ha) (Ev.neg (by simpa using ia) (Ev.call (ref_IsInf hb) (Ev.neg (by simpa using ib) (Ev.call (ref_IsZero ha) ?_)))))
    by_cases z : mag a = 0
    · rw [if_pos z] at h
      exact Ev.pos (by simpa using z) (Ev.call (ref_IsZero hb) h)
    · rw [if_neg z] at h
      exact Ev.neg (by simpa using z) h
  by_cases z : mag a = 0 ∧ mag b = 0
  · have hx : val a + val b = 0 := by rw [val_zero_iff.mpr z.1, val_zero_iff.mpr z.2]; grind
    have e : (if mag a = 0 then decide (mag b = 0) else false) = true := by rw [if_pos z.1]; simpa using z.2
    refine ⟨_, _, start _ (Ev.succ ?_), ⟨fun _ => ⟨rfl, rfl⟩, fun h => absurd hx h⟩⟩
    simp only [gimbalref04_Add.j1]
    refine Ev.pos e (Ev.call (ref_Neg ha) ?_)
    cases hn : neg a
    · exact Ev.neg (by decide) (Ev.call (ref_Signed _ (by decide) (by decide)) (Ev.now _))
    · exact Ev.pos rfl (Ev.call (ref_Neg hb) (Ev.call (ref_Signed _ (by decide) (by decide)) (Ev.now _)))
  · have e : (if mag a = 0 then decide (mag b = 0) else false) = false := by
      by_cases h : mag a = 0
      · rw [if_pos h]; exact decide_eq_false (fun h2 => z ⟨h, h2⟩)
      · rw [if_neg h]
    have k1 := ref_add (a := bl (wh a)) (b := bl (wh b)) (bl_bits _) (bl_bits _) (by omega) (by omega)
    rw [bv_bl X0, bv_bl Y0] at k1
    -- what is left, by the signs
    have main : ∀ r : Int × Int, Ev (fun k => if (neg a != neg b) = true then ((gimbalref02_Cmp.f k (bl (wh a)) (bl (wh b))).bind fun t447 => (if t447 < 0 then ((gimbalref04_Neg.f b).bind fun t448 => (gimbalref04_Add.j2 k (bl (wh b)) (bl (wh a)) t448)) else (gimbalref04_Add.j2 k (bl (wh a)) (bl (wh b)) (neg a)))) else ((gimbalref03_Round.f k (neg a) (bl (wh a + wh b)) (-1074) false).bind fun bt455 => (some (bt455.1, bt455.2)))) r →
        Ev (fun k => gimbalref04_Add.j0 k a b false) r := by
      intro r h
      refine start r (Ev.succ ?_)
      simp only [gimbalref04_Add.j1]
      rw [e]
      exact Ev.neg (by decide) (Ev.bind (ref_Whole ha fa) (Ev.bind (ref_Whole hb fb) (Ev.call (ref_Neg ha) (Ev.bind k1 (Ev.call (ref_Neg ha) (Ev.call (ref_Neg hb) h))))))
    by_cases hs : neg a = neg b
    · obtain ⟨r, f, ev, rd⟩ := ref_roundS (neg a) (X := wh a + wh b) (E := -1074) (by omega) (blen_le (by decide) (by have := p2_le (show (2101 : Int) ≤ 40000 by decide); omega)) (by decide) (by decide)
      refine ⟨r, f, main _ (Ev.neg (by simp [hs]) (Ev.bind ev (Ev.now _))), ?_⟩
      have e1 : sgd (neg a) (wh a) + sgd (neg b) (wh b) = sgd (neg a) (wh a + wh b) := by rw [← hs]; unfold sgd; cases neg a <;> simp <;> omega
      have e2 : (neg a && neg b) = neg a := by rw [← hs]; simp
      rw [hv, e1, e2]; exact rd
    · have hs' : (neg a != neg b) = true := by simpa using hs
      have e2 : (neg a && neg b) = false := by revert hs; cases neg a <;> cases neg b <;> simp
      have k2 := ref_cmp (a := bl (wh a)) (b := bl (wh b)) (bl_bits _) (bl_bits _) (by omega) (by omega)
      rw [bv_bl X0, bv_bl Y0] at k2
      have j2 : ∀ (s : Bool) (c d : Int), 0 ≤ c → 0 ≤ d → d ≤ c → c < p2 2100 → blen c ≤ 2100 → blen d ≤ 2100 → ∃ r f, Ev (fun k => gimbalref04_Add.j2 k (bl c) (bl d) s) (r, f) ∧ Rd ((sgd s (c - d) : Rat) * pw (-1074)) false r f := by
        intro s c d c0 d0 hdc cR cL dL
        have lc := bl_length c0
        have ld := bl_length d0
        have k3 := ref_sub (a := bl c) (b := bl d) (bl_bits _) (bl_bits _) (by omega) (by rw [bv_bl c0, bv_bl d0]; exact hdc)
        rw [bv_bl c0, bv_bl d0] at k3
        have hcd : 0 ≤ c - d := by omega
        have lcd := bl_length hcd
        by_cases hz : c - d = 0
        · refine ⟨0, 0, Ev.succ ?_, ⟨fun _ => ⟨rfl, rfl⟩, fun h => absurd (by rw [hz]; cases s <;> simp [sgd]) h⟩⟩
          simp only [gimbalref04_Add.j2]
          refine Ev.bind k3 (Ev.pos ?_ (Ev.now _))
          rw [lcd, hz, blen_zero]
        · obtain ⟨r, f, ev, rd⟩ := ref_roundS s (X := c - d) (E := -1074) hcd (blen_le (by decide) (by have := p2_le (show (2101 : Int) ≤ 40000 by decide); omega)) (by decide) (by decide)
          refine ⟨r, f, Ev.succ ?_, rd.any (fun h => ?_)⟩
          · simp only [gimbalref04_Add.j2]
            have := (blen_pos (x := c - d) (by omega)).1
            exact Ev.bind k3 (Ev.neg (by omega) (Ev.bind ev (Ev.now _)))
          · have := int_pw_zero.mp h
            unfold sgd at this; revert this; cases s <;> simp <;> omega
      by_cases c : wh a < wh b
      · obtain ⟨r, f, ev, rd⟩ := j2 (neg b) (wh b) (wh a) Y0 X0 (by omega) YR YL XL
        refine ⟨r, f, main _ (Ev.pos hs' (Ev.bind k2 (Ev.pos (by unfold sgn; rw [if_pos (by omega)]; decide) (Ev.call (ref_Neg hb) ev)))), ?_⟩
        have e1 : sgd (neg a) (wh a) + sgd (neg b) (wh b) = sgd (neg b) (wh b - wh a) := by revert hs; unfold sgd; cases neg a <;> cases neg b <;> simp <;> omega
        rw [hv, e1, e2]; exact rd
      · obtain ⟨r, f, ev, rd⟩ := j2 (neg a) (wh a) (wh b) X0 Y0 (by omega) XR XL YL
        refine ⟨r, f, main _ (Ev.pos hs' (Ev.bind k2 (Ev.neg (by unfold sgn; rw [if_neg (by omega)]; split <;> decide) ev))), ?_⟩
        have e1 : sgd (neg a) (wh a) + sgd (neg b) (wh b) = sgd (neg a) (wh a - wh b) := by revert hs; unfold sgd; cases neg a <;> cases neg b <;> simp <;> omega
        rw [hv, e1, e2]; exact rd
end Gim
