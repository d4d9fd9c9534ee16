/- Layer 4's reference: what a quotient is. -/
import Derived.Test.YtfbnojelmdcnoaaTRef4
import Derived.Test.YtfbnojelmdcnoaaTNear
import Derived.Test.YtfbnojelmdcnoaaTDiv
import Derived.Test.YtfbnojelmdcnoaaFx15
namespace Gim
open Go Go.RowKit Go.Proofs.YtfbnojelmdcnoaaW.PrintWords Go.Proofs.YtfbnojelmdcnoaaW.PrintLast Go.Proofs.YtfbnojelmdcnoaaW.PrintMore Go.Proofs.Ytfbnojelmdcnoaa.F
set_option linter.unusedVariables false

theorem sgn_ge {x : Int} : sgn x ≥ 0 ↔ 0 ≤ x := by unfold sgn; constructor <;> intro h <;> revert h <;> split <;> (try split) <;> omega
theorem ref_div_loop {a b : List Int} (ha : Bits a) (hb : Bits b) (hLa : a.length ≤ 100000) (hLb : b.length ≤ 100000) (hB : 0 < bv b) (n : Nat) : n ≤ a.length → ∀ (q : List Int) (R : Int), Bits q → q.length + n = a.length → 0 ≤ R → R < bv b → bv q * bv b + R = bv (a.drop n) →
    Ev (fun k => gimbalref02_Div.l0 k a b q (bl R) ((n : Int) - 1)) (bl (bv a / bv b), bl (bv a % bv b)) := by
  have vb := bv_lt hb
  induction n with
  | zero =>
    intro _ q R hq hlen R0 R1 inv
    have kt := ref_trim hq (by omega)
    have e1 : bv a = bv q * bv b + R := by rw [inv]; rfl
    have e2 : bv a / bv b = bv q := by
      rw [e1, Int.add_comm, Int.add_mul_ediv_right _ _ (by omega), Int.ediv_eq_zero_of_lt R0 R1]; omega
    have e3 : bv a % bv b = R := by
      rw [e1, Int.add_comm, Int.add_mul_emod_self_right, Int.emod_eq_of_lt R0 R1]
    refine Ev.succ ?_
    simp only [gimbalref02_Div.l0]
    rw [e2, e3]
    exact Ev.neg (by omega) (Ev.bind kt (Ev.now _))
  | succ m ih =>
    intro hn q R hq hlen R0 R1 inv
    have hx := ha.at_ (i := (m : Int))
    have ed := bv_drop (l := a) (n := m) (by omega)
    have lR := bl_length R0
    have bR : blen R ≤ 100000 := by
      refine blen_le (by decide) ?_
      have := p2_le (show (b.length : Int) ≤ 100000 by omega)
      rw [p2_pow] at this; omega
    have hbits : Bits ([rd a m] ++ bl R) := Bits.append (Bits.cons hx Bits.nil) (bl_bits _)
    have hlen2 : ([rd a m] ++ bl R).length = 1 + (bl R).length := by simp; omega
    have k1 := ref_trim hbits (by omega)
    have ev1 : bv ([rd a m] ++ bl R) = rd a m + 2 * R := by show bv (rd a m :: bl R) = _; rw [bv_cons, bv_bl R0]
    rw [ev1] at k1
    have h0 : 0 ≤ rd a m + 2 * R := by omega
    have l0 := bl_length h0
    have b0 : blen (rd a m + 2 * R) ≤ 100001 := by
      refine blen_le (by decide) ?_
      have h1 := p2_succ (a := 100000) (by decide)
      rw [show (100000 : Int) + 1 = 100001 from by decide] at h1
      have := p2_le (show (b.length : Int) ≤ 100000 by omega)
      rw [p2_pow] at this; omega
    have k2 := ref_cmp (a := bl (rd a m + 2 * R)) (b := b) (bl_bits _) hb (by omega) (by omega)
    rw [bv_bl h0] at k2
    have ge := sgn_ge (x := rd a m + 2 * R - bv b)
    have e0 : ((m + 1 : Nat) : Int) - 1 = (m : Int) := by omega
    refine Ev.succ ?_
    simp only [gimbalref02_Div.l0]
    rw [e0, w64 (x := (m : Int) - 1) (by omega) (by omega)]
    refine Ev.pos (by omega) (Ev.pos (by omega) (Ev.pos (by omega) (Ev.call rfl ?_)))
    refine Ev.pos (by simp; omega) (Ev.bind k1 (Ev.bind k2 ?_))
    by_cases c : 0 ≤ rd a m + 2 * R - bv b
    · have k3 := ref_sub (a := bl (rd a m + 2 * R)) (b := b) (bl_bits _) hb (by omega) (by rw [bv_bl h0]; omega)
      rw [bv_bl h0] at k3
      refine Ev.pos (ge.mpr c) (Ev.bind k3 (Ev.call rfl (Ev.pos (by simp; omega) ?_)))
      have hq' : Bits ([1] ++ q) := Bits.append (Bits.cons (.inr rfl) Bits.nil) hq
      refine ih (by omega) ([1] ++ q) (rd a m + 2 * R - bv b) hq' (by simp; omega) c (by omega) ?_
      show bv (1 :: q) * bv b + _ = _
      rw [bv_cons, ed, ← inv]; grind
    · refine Ev.neg (fun h => c (ge.mp h)) (Ev.call rfl (Ev.pos (by simp; omega) ?_))
      have hq' : Bits ([0] ++ q) := Bits.append (Bits.cons (.inl rfl) Bits.nil) hq
      refine ih (by omega) ([0] ++ q) (rd a m + 2 * R) hq' (by simp; omega) h0 (by omega) ?_
      show bv (0 :: q) * bv b + _ = _
      rw [bv_cons, ed, ← inv]; grind
theorem ref_div {a b : List Int} (ha : Bits a) (hb : Bits b) (hLa : a.length ≤ 100000) (hLb : b.length ≤ 100000) (hB : 0 < bv b) :
    Ev (fun k => gimbalref02_Div.f k a b) (bl (bv a / bv b), bl (bv a % bv b)) := by
  unfold gimbalref02_Div.f
  rw [w64 (by omega) (by omega)]
  have := ref_div_loop ha hb hLa hLb hB a.length (Nat.le_refl _) [] 0 Bits.nil (by simp) (by decide) hB (by rw [List.drop_length, bv_nil]; omega)
  rw [bl_zero] at this
  exact this

theorem ref_div_fin {a b : Int} (ha : U a) (hb : U b) (fa : fin a) (fb : fin b) (za : mag a ≠ 0) (zb : mag b ≠ 0) (s : Bool) (hs : s = (neg a != neg b)) : ∃ r f, Ev (fun k => gimbalref04_Div.j1 k a b s false) (r, f) ∧ Rd (val a / val b) (neg a != neg b) r f := by
  obtain ⟨ea1, ea2⟩ := fin_expo fa
  obtain ⟨eb1, eb2⟩ := fin_expo fb
  have uM := mant_U a
  have uN := mant_U b
  have lM := mant_blen a
  have lN := mant_blen b
  have ma0 := (mag_lt (a := a)).1
  have mb0 := (mag_lt (a := b)).1
  have M0 := mant_pos (m := mag a) (by omega)
  have N0 := mant_pos (m := mag b) (by omega)
  have va := val_mant a
  have vb := val_mant b
  have vb0 : val b ≠ 0 := fun h => zb (val_zero_iff.mp h)
  have va0 : val a ≠ 0 := fun h => za (val_zero_iff.mp h)
  have hl200 := p2_pos 200
  have bX : blen (mant (mag a) * p2 200) ≤ 253 := by
    refine blen_le (by decide) ?_
    rw [show p2 253 = 9007199254740992 * p2 200 from by decide]
    exact Int.mul_lt_mul_of_pos_right mant_lt hl200
  have hX0 : 0 ≤ mant (mag a) * p2 200 := Int.mul_nonneg uM.1 (Int.le_of_lt hl200)
  have lX := bl_length hX0
  have lM' := bl_length uM.1
  have lN' := bl_length uN.1
  have k1 := ref_up (a := bl (mant (mag a))) (n := 200) (bl_bits _) (by omega) (by decide)
  rw [bv_bl uM.1] at k1
  have k2 := ref_div (a := bl (mant (mag a) * p2 200)) (b := bl (mant (mag b))) (bl_bits _) (bl_bits _) (by omega) (by omega) (by rw [bv_bl uN.1]; exact N0)
  rw [bv_bl hX0, bv_bl uN.1] at k2
  -- the quotient as a number
  have hD : rabs (val a / val b) * (mant (mag b) : Rat) = ((mant (mag a) * p2 200 : Int) : Rat) * pw (expo (mag a) - expo (mag b) - 200) := by
    have e1 : rabs (val a / val b) * rabs (val b) = rabs (val a) := by rw [← rabs_mul, Rat.div_mul_cancel vb0]
    rw [rabs_val, rabs_val] at e1
    unfold vm at e1
    have hG := pw_pos (expo (mag b))
    have e2 : ((mant (mag a) * p2 200 : Int) : Rat) * pw (expo (mag a) - expo (mag b) - 200) * pw (expo (mag b)) = (mant (mag a) : Rat) * pw (expo (mag a)) := by
      have : pw (expo (mag a)) = (p2 200 : Rat) * pw (expo (mag a) - expo (mag b) - 200) * pw (expo (mag b)) := by
        rw [← pw_p2 (by decide), ← pw_add, ← pw_add]; congr 1; omega
      rw [this]; push_cast; grind
    have e3 : rabs (val a / val b) * (mant (mag b) : Rat) * pw (expo (mag b)) = ((mant (mag a) * p2 200 : Int) : Rat) * pw (expo (mag a) - expo (mag b) - 200) * pw (expo (mag b)) := by rw [e2, ← e1]; grind
    exact Rat.le_antisymm (Rat.le_of_mul_le_mul_right (by rw [e3]; exact Rat.le_refl) hG) (Rat.le_of_mul_le_mul_right (by rw [e3]; exact Rat.le_refl) hG)
  have M1 := mant_lt (m := mag a)
  have N1 := mant_lt (m := mag b)
  have step1 : ∀ r : Int × Int, Ev (fun k => gimbalref04_Div.j3 k s (expo (mag a) + 1074) (mant (mag a)) (expo (mag b) + 1074) (mant (mag b))) r → Ev (fun k => gimbalref04_Div.j1 k a b s false) r := by
    intro r hr
    refine Ev.succ ?_
    simp only [gimbalref04_Div.j1]
    refine Ev.neg (by decide) (Ev.call (ref_IsZero hb) (Ev.neg (by simpa using zb) (Ev.call (ref_Parts ha) (Ev.call (ref_Parts hb) ?_))))
    dsimp only
    refine ref_parts_step ha fa (g := fun k x y => gimbalref04_Div.j2 k s x y (b / 4503599627370496 % 2048) (b % 4503599627370496)) (Ev.succ ?_)
    simp only [gimbalref04_Div.j2]
    exact ref_parts_step hb fb (g := fun k x y => gimbalref04_Div.j3 k s (expo (mag a) + 1074) (mant (mag a)) x y) hr
  have hsg : (val a / val b < 0) ↔ s = true := by
    have pb := vm_pos (m := mag b) (by omega)
    have pa := vm_pos (m := mag a) (by omega)
    have e0 : val a / val b * val b = val a := Rat.div_mul_cancel vb0
    have va' := val_eq a
    have vb' := val_eq b
    have q0 : val a / val b ≠ 0 := fun h => va0 (by rw [← e0, h]; grind)
    generalize val a / val b = q at *
    rw [hs]
    have np : ∀ {u v : Rat}, 0 < u → 0 < v → 0 < u * v := fun h1 h2 => Rat.mul_pos h1 h2
    constructor
    · intro h
      cases h1 : neg a <;> cases h2 : neg b <;> rw [h1] at va' <;> rw [h2] at vb' <;> simp at va' vb' ⊢
      · have := np (u := -q) (v := val b) (by grind) (by grind); grind
      · have := np (u := -q) (v := -val b) (by grind) (by grind); grind
    · intro h
      refine Decidable.byContradiction fun hc => ?_
      have hq : 0 < q := by grind
      cases h1 : neg a <;> cases h2 : neg b <;> rw [h1, h2] at h <;> rw [h1] at va' <;> rw [h2] at vb' <;> simp at va' vb' h
      · have := np (u := q) (v := -val b) hq (by grind); grind
      · have := np (u := q) (v := val b) hq (by grind); grind
  have q0 : val a / val b ≠ 0 := fun h => va0 (by rw [← Rat.div_mul_cancel (a := val a) vb0, h]; grind)
  generalize hM : mant (mag a) = M at *
  generalize hN : mant (mag b) = N at *
  generalize hE : expo (mag a) = E at *
  generalize hG : expo (mag b) = G at *
  have md := Int.mul_ediv_add_emod (M * p2 200) N
  have r0 := Int.emod_nonneg (M * p2 200) (show N ≠ 0 by omega)
  have r1 := Int.emod_lt_of_pos (M * p2 200) N0
  have hQ : p2 147 ≤ M * p2 200 / N := by
    rw [Int.le_ediv_iff_mul_le N0]
    have e : p2 200 = p2 147 * p2 53 := by decide
    have h1 : p2 147 * N ≤ p2 147 * p2 53 := Int.mul_le_mul_of_nonneg_left (by rw [show p2 53 = 9007199254740992 from by decide]; omega) (Int.le_of_lt (p2_pos _))
    have h2 : 1 * p2 200 ≤ M * p2 200 := Int.mul_le_mul_of_nonneg_right (by omega) (Int.le_of_lt hl200)
    omega
  have hQ0 : 0 < M * p2 200 / N := by have := p2_pos 147; omega
  have hQb : 54 ≤ blen (M * p2 200 / N) := by
    have h1 := blen_mono hQ
    have h2 : blen (p2 147) = 148 := blen_unique (by decide) (by decide) (by decide)
    omega
  have hQle : M * p2 200 / N ≤ M * p2 200 := Int.ediv_le_self _ hX0
  have hQb2 : blen (M * p2 200 / N) ≤ 253 := by have := blen_mono hQle; omega
  generalize hx : rabs (val a / val b) = x at *
  generalize hX : M * p2 200 = X at *
  generalize hQQ : X / N = Q at *
  generalize hR : X % N = R at *
  have lR := bl_length r0
  have hNr : (0 : Rat) < (N : Rat) := by have := (Rat.intCast_lt_intCast (a := 0) (b := N)).mpr N0; simpa using this
  have hu := pw_pos (E - G - 200)
  have eX : (X : Rat) = (N : Rat) * (Q : Rat) + (R : Rat) := by rw [← md]; push_cast; rfl
  obtain ⟨m, f, ev, rb⟩ := ref_round_near s (W := Q) (E := E - G - 200) (x := x) hQ0 (by omega) (by omega) (by omega) (decide ((bl R).length > (0 : Int)))
    (by
      intro h
      have h0 : R = 0 := by
        have := of_decide_eq_false h
        by_cases c : 0 < R
        · have := (blen_pos c).1; omega
        · omega
      rw [h0] at eX
      have e3 : x * (N : Rat) = (Q : Rat) * pw (E - G - 200) * (N : Rat) := by rw [hD, eX]; simp; grind
      exact Rat.le_antisymm (Rat.le_of_mul_le_mul_right (by rw [e3]; exact Rat.le_refl) hNr) (Rat.le_of_mul_le_mul_right (by rw [e3]; exact Rat.le_refl) hNr))
    (by
      intro h
      have h0 : 0 < R := by
        have := of_decide_eq_true h
        by_cases c : R = 0
        · rw [c, bl_zero] at this; simp at this
        · omega
      have R0' : (0 : Rat) < (R : Rat) := by have := (Rat.intCast_lt_intCast (a := 0) (b := R)).mpr h0; simpa using this
      have R1' : (R : Rat) < (N : Rat) := (Rat.intCast_lt_intCast (a := R) (b := N)).mpr r1
      refine ⟨⟨?_, ?_⟩, hQb⟩
      · have p := Rat.mul_pos R0' hu
        have : (Q : Rat) * pw (E - G - 200) * (N : Rat) < x * (N : Rat) := by rw [hD, eX]; grind
        exact Decidable.byContradiction fun hc => by
          have := Rat.mul_le_mul_of_nonneg_right (show x ≤ (Q : Rat) * pw (E - G - 200) by grind) (Rat.le_of_lt hNr)
          grind
      · have p := Rat.mul_pos (show (0 : Rat) < (N : Rat) - (R : Rat) by grind) hu
        have : x * (N : Rat) < ((Q + 1 : Int) : Rat) * pw (E - G - 200) * (N : Rat) := by rw [hD, eX]; push_cast; grind
        exact Decidable.byContradiction fun hc => by
          have := Rat.mul_le_mul_of_nonneg_right (show ((Q + 1 : Int) : Rat) * pw (E - G - 200) ≤ x by grind) (Rat.le_of_lt hNr)
          grind)
  refine ⟨signed s m, f, step1 _ (Ev.succ ?_), ⟨fun h => absurd h q0, fun _ => ⟨m, by rw [hx]; exact rb, ?_⟩⟩⟩
  · simp only [gimbalref04_Div.j3]
    rw [w64 (x := E + 1074 - (G + 1074)) (by omega) (by omega), w64 (by omega) (by omega), show E + 1074 - (G + 1074) - 200 = E - G - 200 from by omega]
    exact Ev.bind (ref_of uM) (Ev.bind k1 (Ev.bind (ref_of uN) (Ev.bind k2 (Ev.bind ev (Ev.now _)))))
  · congr 1
    rw [Bool.eq_iff_iff, decide_eq_true_eq, hsg]
/-- THE REFERENCE's QUOTIENT. -/
theorem ref_div_ev {a b : Int} (ha : U a) (hb : U b) : ∃ r f, Ev (fun k => gimbalref04_Div.f k a b) (r, f) ∧ DivR a b r f := by
  unfold DivR
  by_cases h : (isNan a || isNan b) = true
  · refine ⟨_, _, ?_, by rw [if_pos h]; exact ⟨rfl, rfl⟩⟩
    unfold gimbalref04_Div.f
    exact Ev.bind (ref_Nans2 ha hb) (Ev.pos h (Ev.now _))
  · obtain ⟨h0, na, nb⟩ := nan_or h
    have start : ∀ r : Int × Int, Ev (fun k => gimbalref04_Div.j0 k a b (neg a != neg b) (divBad a b)) r → Ev (fun k => gimbalref04_Div.f k a b) r := by
      intro r hr
      unfold gimbalref04_Div.f
      unfold divBad at hr
      refine Ev.bind (ref_Nans2 ha hb) (Ev.neg h (Ev.call (ref_Neg ha) (Ev.call (ref_Neg hb) (Ev.call (ref_IsInf ha) ?_))))
      have rest : ¬ (mag a = INF ∧ mag b = INF) → Ev (fun k => (gimbalref04_IsZero.f a).bind fun t613 => (if t613 = true then ((gimbalref04_IsZero.f b).bind fun t614 => (gimbalref04_Div.j0 k a b (neg a != neg b) t614)) else (gimbalref04_Div.j0 k a b (neg a != neg b) false))) r := by
        intro hn
        have e1 : (decide (mag a = INF) && decide (mag b = INF)) = false := by
          cases hc : (decide (mag a = INF) && decide (mag b = INF))
          · rfl
          · simp at hc; exact absurd hc hn
        rw [e1, Bool.false_or] at hr
        refine Ev.call (ref_IsZero ha) ?_
        by_cases z : mag a = 0
        · rw [decide_eq_true z, Bool.true_and] at hr
          exact Ev.pos (by simpa using z) (Ev.call (ref_IsZero hb) hr)
        · rw [decide_eq_false z, Bool.false_and] at hr
          exact Ev.neg (by simpa using z) hr
      by_cases i : mag a = INF
      · refine Ev.pos (by simpa using i) (Ev.call (ref_IsInf hb) ?_)
        by_cases z : mag b = INF
        · rw [decide_eq_true i, decide_eq_true z, Bool.and_true, Bool.true_or] at hr
          exact Ev.pos (by simpa using z) hr
        · exact Ev.neg (by simpa using z) (rest (fun hh => z hh.2))
      · exact Ev.neg (by simpa using i) (rest (fun hh => i hh.1))
    by_cases iz : divBad a b = true
    · refine ⟨QNAN, 16, start _ (Ev.succ ?_), by rw [if_neg h, if_pos iz]; exact ⟨rfl, rfl⟩⟩
      simp only [gimbalref04_Div.j0]
      exact Ev.pos iz (Ev.now _)
    · by_cases ia : mag a = INF
      · refine ⟨_, 0, start _ (Ev.succ ?_), by rw [if_neg h, if_neg iz, if_pos ia]; exact ⟨rfl, rfl⟩⟩
        simp only [gimbalref04_Div.j0]
        exact Ev.neg iz (Ev.call (ref_IsInf ha) (Ev.pos (by simpa using ia) (Ev.call (ref_Signed _ INF_lt.1 INF_lt.2) (Ev.now _))))
      · have next : ∀ r : Int × Int, Ev (fun k => gimbalref04_Div.j1 k a b (neg a != neg b) (if mag b = INF then true else decide (mag a = 0))) r → Ev (fun k => gimbalref04_Div.f k a b) r := by
          intro r hr
          refine start r (Ev.succ ?_)
          simp only [gimbalref04_Div.j0]
          refine Ev.neg iz (Ev.call (ref_IsInf ha) (Ev.neg (by simpa using ia) (Ev.call (ref_IsInf hb) ?_)))
          by_cases i : mag b = INF
          · rw [if_pos i] at hr
            exact Ev.pos (by simpa using i) hr
          · rw [if_neg i] at hr
            exact Ev.neg (by simpa using i) (Ev.call (ref_IsZero ha) hr)
        have out0 : (if mag b = INF then true else decide (mag a = 0)) = true → Ev (fun k => gimbalref04_Div.f k a b) (signed (neg a != neg b) 0, 0) := by
          intro e
          refine next _ (Ev.succ ?_)
          simp only [gimbalref04_Div.j1]
          exact Ev.pos e (Ev.call (ref_Signed _ (by decide) (by decide)) (Ev.now _))
        by_cases ib : mag b = INF
        · exact ⟨_, 0, out0 (by rw [if_pos ib]), by rw [if_neg h, if_neg iz, if_neg ia, if_pos ib]; exact ⟨rfl, rfl⟩⟩
        · rw [if_neg ib] at out0 next
          by_cases zb : mag b = 0
          · have za : mag a ≠ 0 := fun hh => iz (by unfold divBad; rw [zb, hh]; decide)
            refine ⟨_, 8, next _ (Ev.succ ?_), by rw [if_neg h, if_neg iz, if_neg ia, if_neg ib, if_pos zb]; exact ⟨rfl, rfl⟩⟩
            simp only [gimbalref04_Div.j1]
            exact Ev.neg (by simpa using za) (Ev.call (ref_IsZero hb) (Ev.pos (by simpa using zb) (Ev.call (ref_Signed _ INF_lt.1 INF_lt.2) (Ev.now _))))
          · by_cases za : mag a = 0
            · exact ⟨_, 0, out0 (decide_eq_true za), by rw [if_neg h, if_neg iz, if_neg ia, if_neg ib, if_neg zb]; exact ⟨fun _ => ⟨rfl, rfl⟩, fun hne => absurd (by rw [val_zero_iff.mpr za, Rat.div_def]; grind) hne⟩⟩
            · obtain ⟨r, f, ev, rd⟩ := ref_div_fin ha hb (fin_of na ia) (fin_of nb ib) za zb _ rfl
              rw [decide_eq_false za] at next
              exact ⟨r, f, next _ ev, by rw [if_neg h, if_neg iz, if_neg ia, if_neg ib, if_neg zb]; exact rd⟩
end Gim
