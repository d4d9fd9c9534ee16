/- Exact numbers: the nearest pattern; what a pattern is. -/
import Derived.Test.YtakegikedpcilaaDoorTDyD
import Derived.Test.YtakegikedpcilaaDoorTNanB
import Derived.Test.YtakegikedpcilaaDoorTRep
import Derived.Test.YtakegikedpcilaaDoorFx8
namespace Gim
open Go Go.RowKit Go.Proofs.YtakegikedpcilaaDoorW.PrintWords Go.Proofs.YtakegikedpcilaaDoorW.PrintLast Go.Proofs.YtakegikedpcilaaDoorW.PrintMore Go.Proofs.YtakegikedpcilaaDoor.F
set_option linter.unusedVariables false
set_option linter.unusedSectionVars false

theorem nval_sgd (n : Bool) (m : List Int) (e : Int) : nval n m e = (sgd n (nv m) : Rat) * pw e := by
  unfold nval sgd
  cases n
  · simp
  · simp; grind
theorem p2_bp (k : Nat) : p2 (32 * (k : Int)) = bp k := by
  have e : ((32 * (k : Int)) : Int) = ((32 * k : Nat) : Int) := by omega
  unfold p2 bp
  rw [e, Int.toNat_natCast, Int.pow_mul]; rfl
theorem nv_take_drop_succ {l : List Int} {i j : Nat} (h : i + j < l.length) : nv ((l.drop i).take (j + 1)) = nv ((l.drop i).take j) + bp j * l[i + j] := by
  have h2 : j < (l.drop i).length := by rw [List.length_drop]; omega
  rw [nv_take_succ h2, List.getElem_drop]
theorem bp2_val : bp 2 = 18446744073709551616 := by decide
theorem bp3_val : bp 3 = 79228162514264337593543950336 := by decide
section
variable {n : Bool} {m : List Int} {e : Int} (hm : Dig m) (hl : m.length ≤ 1000000) (he0 : -1000000 ≤ e) (he1 : e ≤ 1000000)
include hm hl he0 he1
theorem near_top {E : Int} {more : Bool} : ∀ t i : Nat, m.length - i = t → m.length - 3 ≤ i → i ≤ m.length → ∀ h l : Int, U h → U l → wv h l = nv ((m.drop (m.length - 3)).take (i - (m.length - 3))) →
    ∃ h' l', U h' ∧ U l' ∧ wv h' l' = nv (m.drop (m.length - 3)) ∧ ∀ r : Int × Int, Ev (fun K => round_Round.f K n h' l' E more) r → Ev (fun K => dyad_Num_Near.l0 K m.length E more m m.length i n m e h l) r := by
  intro t
  induction t with
  | zero =>
    intro i h1 h2 h3 h l uh ul hv
    obtain rfl : i = m.length := by omega
    refine ⟨h, l, uh, ul, ?_, fun r hr => Ev.succ ?_⟩
    · rw [hv, List.take_of_length_le (by rw [List.length_drop]; omega)]
    · simp only [dyad_Num_Near.l0]
      exact Ev.neg (by omega) (Ev.bind hr (Ev.now _))
  | succ t ih =>
    intro i h1 h2 h3 h l uh ul hv
    have hi : i < m.length := by omega
    have hd := hm.get hi
    obtain ⟨j, hj⟩ : ∃ j, i = (m.length - 3) + j := ⟨i - (m.length - 3), by omega⟩
    have hj3 : j < 3 := by omega
    have hs : 32 * ((i : Int) - mx 0 ((m.length : Int) - 3)) = 32 * (j : Int) := by unfold mx; split <;> omega
    have bj := bp_pos j
    have bj2 : bp j ≤ bp 2 := bp_mono (by omega)
    rw [bp2_val] at bj2
    have vb := nv_bounds ((hm.drop (m.length - 3)).take j)
    have vl : ((m.drop (m.length - 3)).take j).length = j := by rw [List.length_take, List.length_drop]; omega
    rw [vl] at vb
    have ud : U m[i] := ⟨hd.1, by omega⟩
    have wd : wv 0 m[i] = m[i] := by unfold wv; omega
    have hprod := mul_bound hd.1 (Int.le_of_lt bj) (show m[i] ≤ 4294967295 by omega) bj2
    obtain ⟨h1', l1', e1, uh1, ul1, v1⟩ := wide_Left_small (h := 0) (l := m[i]) (n := 32 * (j : Int)) ⟨by decide, by decide⟩ ud (by omega) (by rw [wd, p2_bp]; omega)
    rw [wd, p2_bp] at v1
    obtain ⟨h2', l2', e2, uh2, ul2, v2⟩ := wide_Add_eq uh ul uh1 ul1
    have hidx : i - (m.length - 3) = j := by omega
    rw [hidx] at hv
    rw [hv, v1] at v2
    have hsum : nv ((m.drop (m.length - 3)).take (j + 1)) = nv ((m.drop (m.length - 3)).take j) + m[i] * bp j := by
      rw [nv_take_drop_succ (by omega), Int.mul_comm]
      congr 2
      simp [hj]
    have hlt : nv ((m.drop (m.length - 3)).take j) + m[i] * bp j < 340282366920938463463374607431768211456 := by omega
    rw [Int.emod_eq_of_lt (by omega) hlt, ← hsum] at v2
    obtain ⟨h', l', uh', ul', vv, k⟩ := ih (i + 1) (by omega) (by omega) (by omega) h2' l2' uh2 ul2 (by rw [v2]; congr 2; omega)
    refine ⟨h', l', uh', ul', vv, fun r hr => Ev.succ ?_⟩
    simp only [dyad_Num_Near.l0]
    rw [w64 (x := (m.length : Int) - 3) (by omega) (by omega), w64 (x := (i : Int) - mx 0 ((m.length : Int) - 3)) (by omega) (by omega), hs, w64 (x := 32 * (j : Int)) (by omega) (by omega), w64 (x := (i : Int) + 1) (by omega) (by omega), rd_nat hi, wu64 (x := m[i]) hd.1 (by omega)]
    exact Ev.pos (by omega) (Ev.pos (by omega) (Ev.pos (by omega) (Ev.neg (by omega) (Ev.call e1 (Ev.call e2 (k r hr))))))
theorem near_low : ∀ t i : Nat, (m.length - 3) - i = t → i ≤ m.length - 3 → ∀ r : Int × Int,
    Ev (fun K => dyad_Num_Near.l0 K m.length (e + 32 * ((m.length - 3 : Nat) : Int)) (decide (0 < m.length - 3)) m m.length ((m.length - 3 : Nat) : Int) n m e 0 0) r →
    Ev (fun K => dyad_Num_Near.l0 K m.length (e + 32 * (i : Int)) (decide (0 < i)) m m.length i n m e 0 0) r := by
  intro t
  induction t with
  | zero =>
    intro i h1 h2 r hr
    obtain rfl : i = m.length - 3 := by omega
    exact hr
  | succ t ih =>
    intro i h1 h2 r hr
    have k := ih (i + 1) (by omega) (by omega) r hr
    refine Ev.succ ?_
    simp only [dyad_Num_Near.l0]
    rw [w64 (x := (m.length : Int) - 3) (by omega) (by omega), w64 (x := e + 32 * (i : Int) + 32) (by omega) (by omega), w64 (x := (i : Int) + 1) (by omega) (by omega), show e + 32 * (i : Int) + 32 = e + 32 * ((i + 1 : Nat) : Int) by omega]
    refine Ev.pos (by omega) (Ev.pos (by omega) (Ev.pos (by omega) (Ev.pos (by omega) ?_)))
    rw [decide_eq_true (show 0 < i + 1 by omega)] at k
    exact k
end
/-- THE NEAREST PATTERN. -/
theorem near_ev {E : Int} {x : Rat} {n : Bool} {m : List Int} {e : Int} (hE0 : 0 ≤ E) (hE : E ≤ 20000) (a : Nm E x n m e) : ∃ r f, Ev (fun K => dyad_Num_Near.f K n m e) (r, f) ∧ Rd x false r f := by
  obtain ⟨s1, s2, s3⟩ := a.sizes hE0
  have hm := a.can.1
  by_cases h1 : m = []
  · have hx : x = 0 := by rw [← a.val, h1]; unfold nval; cases n <;> simp [nv]
    obtain ⟨_, rfl, rfl⟩ : m = [] ∧ n = false ∧ e = 0 := a.can.2.2.resolve_right fun h => h.1 h1
    subst h1
    refine ⟨signed false 0, 0, ?_, ⟨fun _ => ⟨rfl, rfl⟩, fun h => absurd hx h⟩⟩
    unfold dyad_Num_Near.f
    refine Ev.succ ?_
    simp only [dyad_Num_Near.l0]
    exact Ev.neg (by simp) (Ev.bind (round_Round_zero false 0) (Ev.now _))
  · have ho : nv m % 2 = 1 := by
      rcases a.can.2.2 with ⟨h, _⟩ | ⟨_, h⟩
      · exact absurd h h1
      · exact h
    have hpos := nv_pos a.can.2.1 h1
    have htop := a.can.2.1 h1
    have hlen : 0 < m.length := List.length_pos_iff.mpr h1
    obtain ⟨h', l', uh, ul, hv, k⟩ := near_top (n := n) (e := e) (E := e + 32 * ((m.length - 3 : Nat) : Int)) (more := decide (0 < m.length - 3)) hm (by omega) (by omega) (by omega) _ (m.length - 3) rfl (by omega) (by omega) 0 0 ⟨by decide, by decide⟩ ⟨by decide, by decide⟩ (by simp [nv, wv])
    have hx := a.val
    rw [nval_sgd] at hx
    have hax : rabs x = (nv m : Rat) * pw e := by rw [← hx]; exact rabs_sgd n (Int.le_of_lt hpos)
    have split := nv_take_drop m (m.length - 3) (by omega)
    have lb := nv_bounds (hm.take (m.length - 3))
    have tl : (m.take (m.length - 3)).length = m.length - 3 := by rw [List.length_take]; omega
    rw [tl] at lb
    have hB := bp_pos (m.length - 3)
    have hpw : pw (e + 32 * ((m.length - 3 : Nat) : Int)) = ((bp (m.length - 3) : Int) : Rat) * pw e := by rw [pw_add, bp_pw, Rat.mul_comm]
    have hW : 0 < wv h' l' := by
      rw [hv]
      refine Decidable.byContradiction fun hc => ?_
      by_cases h3 : m.length ≤ 3
      · have e0 : m.length - 3 = 0 := by omega
        rw [e0, List.drop_zero] at hc
        omega
      · have h5 := Int.mul_le_mul_of_nonneg_left (show nv (m.drop (m.length - 3)) ≤ 0 by omega) (Int.le_of_lt hB)
        have h6 := bp_mono (show m.length - 3 ≤ m.length - 1 by omega)
        omega
    have hmore : 0 < m.length - 3 → (0 < nv (m.take (m.length - 3))) ∧ 54 ≤ blen (wv h' l') := by
      intro h3
      constructor
      · have he := bp_even _ h3
        refine Decidable.byContradiction fun hc => ?_
        have z : nv (m.take (m.length - 3)) = 0 := by omega
        rw [z] at split
        have : (bp (m.length - 3) * nv (m.drop (m.length - 3))) % 2 = 0 := by rw [Int.mul_emod, he]; simp
        omega
      · have h4 : bp (m.length - 1) = bp (m.length - 3) * bp 2 := by rw [← bp_add]; congr 1; omega
        have h5 : bp 2 ≤ nv (m.drop (m.length - 3)) := by
          refine Decidable.byContradiction fun hc => ?_
          have h6 := Int.mul_le_mul_of_nonneg_left (show nv (m.drop (m.length - 3)) ≤ bp 2 - 1 by omega) (Int.le_of_lt hB)
          have h7 : bp (m.length - 3) * (bp 2 - 1) = bp (m.length - 3) * bp 2 - bp (m.length - 3) := by grind
          omega
        rw [bp2_val] at h5
        obtain ⟨b1, b2, b3⟩ := blen_pos hW
        refine Decidable.byContradiction fun hc => ?_
        have := p2_le (show blen (wv h' l') ≤ 64 by omega)
        rw [p2_64] at this
        omega
    obtain ⟨b, f, ev, rb⟩ := round_Round_ev n uh ul (E := e + 32 * ((m.length - 3 : Nat) : Int)) (by omega) (by omega) (decide (0 < m.length - 3)) (x := rabs x) hW (by
      intro h
      have h0 : m.length - 3 = 0 := by simpa using h
      rw [hax, hv, hpw, h0, List.drop_zero, bp_zero]; simp) (by
      intro h
      have h0 : 0 < m.length - 3 := of_decide_eq_true h
      obtain ⟨q1, q2⟩ := hmore h0
      refine ⟨?_, q2⟩
      rw [hax, hv, hpw]
      have hp := pw_pos e
      have z1 : bp (m.length - 3) * nv (m.drop (m.length - 3)) < nv m := by omega
      have z2 : nv m < bp (m.length - 3) * (nv (m.drop (m.length - 3)) + 1) := by grind
      have y1 := mul_pw_lt (e := e) |>.mpr z1
      have y2 := mul_pw_lt (e := e) |>.mpr z2
      push_cast at y1 y2 ⊢
      constructor <;> grind)
    refine ⟨signed n b, f, ?_, ⟨fun h0 => ?_, fun h0 => ⟨b, rb, ?_⟩⟩⟩
    · unfold dyad_Num_Near.f
      have := near_low (n := n) (e := e) hm (by omega) (by omega) (by omega) _ 0 rfl (by omega) (signed n b, f) (k _ ev)
      have e0 : e + 32 * ((0 : Nat) : Int) = e := by omega
      rw [e0] at this
      exact this
    · rw [h0] at hx
      have := int_pw_zero.mp hx
      unfold sgd at this; split at this <;> omega
    · congr 1
      rw [← hx, Bool.eq_iff_iff, decide_eq_true_eq, int_pw_neg]
      unfold sgd; cases n <;> simp <;> omega
/-- WHAT A PATTERN IS. -/
theorem of_ev {a E : Int} (hE : E = 1074) (ha : U a) (fa : fin a) : ∃ r l f, Ev (fun K => dyad_Of.f K a) (r, l, f, true) ∧ Nm E (val a) r l f := by
  obtain ⟨e1, e2⟩ := fin_expo fa
  have uM := mant_U a
  have lM := mant_lt (m := mag a)
  have parts : ∃ p q, Ev (fun k => word_Parts.f k a) (p, q) ∧ 0 ≤ p ∧ p < 9007199254740992 ∧ -1074 ≤ q ∧ q ≤ 971 ∧ val a = (sgd (neg a) p : Rat) * pw q := by
    by_cases h : 0 < mag a
    · exact ⟨_, _, word_Parts_ev ha h fa, uM.1, lM, e1, e2, val_mant a⟩
    · have h0 : mag a = 0 := by have := (mag_lt (a := a)).1; omega
      refine ⟨0, 0, word_Parts_none ha (.inl h0), by decide, by decide, by decide, by decide, ?_⟩
      rw [val_zero_iff.mpr h0]; unfold sgd; cases neg a <;> simp
  obtain ⟨p, q, ev, p0, p1, q0, q1, hv⟩ := parts
  obtain ⟨dg, vl⟩ := nv_two (u := p) (by omega) (by omega)
  obtain ⟨r, l, f, evt, cn, v⟩ := trim_ev (neg := neg a) (e := q) dg (by simp) (by omega) (by omega)
  rw [nval_sgd (neg a), vl] at v
  refine ⟨r, l, f, ?_, ?_⟩
  · unfold dyad_Of.f
    refine Ev.call (word_Finite_eq ha) (Ev.pos (decide_eq_true fa) (Ev.bind ev (Ev.call (word_Neg_eq ha) (Ev.bind evt (Ev.now _)))))
  · have hb : rabs (val a) ≤ pw E := by
      rw [hv, rabs_sgd _ p0]
      have h1 : (p : Rat) * pw q ≤ pw 53 * pw 971 := by
        refine (prod_le ?_ ?_ (Rat.le_of_lt (pw_pos q)) (pw_mono q1)).2
        · exact_mod_cast p0
        · rw [pw_p2 (a := 53) (by decide), show p2 53 = 9007199254740992 from by decide]; exact Rat.intCast_le_intCast.mpr (Int.le_of_lt p1)
      rw [← pw_add] at h1
      exact Rat.le_trans h1 (pw_mono (by omega))
    refine Nm.of (k := sgd (neg a) p * p2 (q + E)) (by omega) cn (v.trans hv.symm) ?_ ?_ ?_
    · rw [hv]
      have : pw q = ((p2 (q + E) : Int) : Rat) * pw (-E) := by rw [← pw_p2 (by omega), ← pw_add]; congr 1; omega
      rw [this]; push_cast; grind
    · unfold rabs at hb; split at hb <;> grind
    · unfold rabs at hb; split at hb <;> grind
theorem of_none {a : Int} (ha : U a) (fa : ¬ fin a) (K : Nat) : dyad_Of.f K a = some (false, [], 0, false) := by
  unfold dyad_Of.f
  rw [word_Finite_eq ha, decide_eq_false fa]
  rfl
end Gim
