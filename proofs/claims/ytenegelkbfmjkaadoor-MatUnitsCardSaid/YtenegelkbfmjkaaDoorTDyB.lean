/- Exact numbers: two at one power of two (up, line), which is greater (cmp). -/
import Derived.Test.YtenegelkbfmjkaaDoorTDyA
import Derived.Test.YtenegelkbfmjkaaDoorFx6
import Derived.Test.YtenegelkbfmjkaaDoorFx7
namespace Gim
open Go Go.RowKit Go.Proofs.YtenegelkbfmjkaaDoorW.PrintWords Go.Proofs.YtenegelkbfmjkaaDoorW.PrintLast Go.Proofs.YtenegelkbfmjkaaDoorW.PrintMore Go.Proofs.YtenegelkbfmjkaaDoor.F
set_option linter.unusedVariables false

theorem bp_p2 (n : Nat) : bp n = p2 (32 * n) := by
  have e : (32 * (n : Int)).toNat = 32 * n := by omega
  unfold bp p2
  rw [e, Int.pow_mul]; rfl
section
variable {m : List Int} (hm : Dig m) (hl : m.length ≤ 1000000) {q : Nat} {s : Int} (hq : q ≤ 1000000) (s0 : 0 ≤ s) (s1 : s < 32)
include hm hl hq s0 s1
theorem up_l0 : ∀ n i : Nat, m.length - i = n → i ≤ m.length → ∀ (out : List Int) (c : Int), Dig out → out.length = q + i → 0 ≤ c → c < p2 s →
    nv out + bp (q + i) * c = bp q * (p2 s * nv (m.take i)) →
    ∃ r, Ev (fun K => dyad_up.l0 K out s c m m.length i) r ∧ Dig r ∧ r.length = q + m.length + 1 ∧ nv r = bp q * (p2 s * nv m) := by
  intro n
  induction n with
  | zero =>
    intro i e1 e2 out c hd hlen c0 c1 hv
    obtain rfl : i = m.length := by omega
    have hp32 : p2 s ≤ 4294967296 := by rw [← p2_32]; exact p2_le (by omega)
    refine ⟨out ++ [c], Ev.succ ?_, hd.append (Dig.one c0 (by omega)), by simp [hlen] <;> omega, ?_⟩
    · simp only [dyad_up.l0]
      have p1 : out.length < 35184372088832 := Nat.lt_of_le_of_lt (show out.length ≤ 2000000 by omega) (by decide)
      exact Ev.neg (by omega) (Ev.pos p1 (Ev.now _))
    · rw [nv_snoc, hlen, hv, List.take_length]
  | succ n ih =>
    intro i e1 e2 out c hd hlen c0 c1 hv
    have hi : i < m.length := by omega
    have hP := p2_pos s
    have hQ := p2_pos (32 - s)
    have hPQ := p2_split (s := s) (by omega) (by omega)
    have hx := hm.get hi
    have hp32 : p2 s ≤ 4294967296 := by rw [← p2_32]; exact p2_le (by omega)
    have d0 := Int.ediv_nonneg hx.1 (Int.le_of_lt hQ)
    have d1 : m[i] / p2 (32 - s) < p2 s := Int.ediv_lt_of_lt_mul hQ (by omega)
    have e5 : m[i] * p2 s % 4294967296 = (m[i] % p2 (32 - s)) * p2 s := by
      rw [← hPQ, Int.mul_comm m[i], Int.mul_emod_mul_of_pos _ _ hP, Int.mul_comm]
    have hdm := Int.emod_add_mul_ediv m[i] (p2 (32 - s))
    have r0 := Int.emod_nonneg m[i] (show p2 (32 - s) ≠ 0 by omega)
    have r1 := Int.emod_lt_of_pos m[i] hQ
    have m0 := Int.mul_nonneg r0 (Int.le_of_lt hP)
    have m1 : (m[i] % p2 (32 - s)) * p2 s ≤ (p2 (32 - s) - 1) * p2 s := Int.mul_le_mul_of_nonneg_right (by omega) (Int.le_of_lt hP)
    have m2 : (p2 (32 - s) - 1) * p2 s = 4294967296 - p2 s := by grind
    obtain ⟨r, ev, rd_, rl, rv⟩ := ih (i + 1) (by omega) (by omega) (out ++ [(m[i] % p2 (32 - s)) * p2 s + c]) (m[i] / p2 (32 - s)) (hd.append (Dig.one (by omega) (by omega))) (by simp [hlen] <;> omega) d0 d1 (by
      have hb : bp (q + (i + 1)) = bp (q + i) * 4294967296 := by rw [← Nat.add_assoc, bp_succ, Int.mul_comm]
      have hb2 := bp_add q i
      rw [nv_snoc, hlen, nv_take_succ hi, hb]
      have h3 : m[i] * p2 s = (m[i] % p2 (32 - s)) * p2 s + 4294967296 * (m[i] / p2 (32 - s)) := by
        rw [← hPQ]; grind
      grind)
    refine ⟨r, Ev.succ ?_, rd_, rl, rv⟩
    simp only [dyad_up.l0]
    have p1 : out.length < 35184372088832 := Nat.lt_of_le_of_lt (show out.length ≤ 2000000 by omega) (by decide)
    have hw : IntKind.u64.wrap m[i] = m[i] := wu64 hx.1 (by omega)
    refine Ev.pos (by omega) (Ev.pos (by omega) (Ev.pos (by omega) (Ev.pos s0 (Ev.pos p1 ?_))))
    rw [w64 (x := 32 - s) (by omega) (by omega), w64 (x := (i : Int) + 1) (by omega) (by omega), rd_nat hi, hw]
    refine Ev.pos (by omega) ?_
    have e6 : m[i] / p2 (32 - s) % 4294967296 = m[i] / p2 (32 - s) := Int.emod_eq_of_lt d0 (by omega)
    rw [shl_u32 (by omega) (by omega), e5, u32_or s.toNat m0 (p2_mod (by omega) _) (by omega) c0 c1 (by omega), shr_u64 (by omega) (by omega), e6]
    exact ev
end
theorem up_ev {m : List Int} (hm : Dig m) (hl : m.length ≤ 1000000) {n : Int} (h0 : 0 ≤ n) (h1 : n ≤ 10000000) :
    ∃ r, Ev (fun K => dyad_up.f K m n) r ∧ Dig r ∧ (r.length : Int) = n / 32 + m.length + 1 ∧ nv r = nv m * p2 n := by
  obtain ⟨q, hq⟩ : ∃ q : Nat, (q : Int) = n / 32 := ⟨(n / 32).toNat, by omega⟩
  have ed : Int.tdiv n 32 = n / 32 := by rw [Int.tdiv_eq_ediv_of_nonneg h0]
  have em : Int.tmod n 32 = n % 32 := by rw [Int.tmod_eq_emod_of_nonneg h0]
  have hP := p2_pos (n % 32)
  obtain ⟨r, ev, rd_, rl, rv⟩ := up_l0 hm hl (q := q) (s := n % 32) (by omega) (by omega) (by omega) m.length 0 (by omega) (by omega) (List.replicate q 0) 0 (Dig.zeros _) (by simp) (by omega) hP (by rw [nv_zeros]; simp [nv])
  refine ⟨r, ?_, rd_, by omega, ?_⟩
  · unfold dyad_up.f
    rw [ed, em, w64 (x := n / 32) (by omega) (by omega), ← hq, w64 (x := (q : Int) + (m.length : Int)) (by omega) (by omega), w64 (x := (q : Int) + (m.length : Int) + 1) (by omega) (by omega)]
    have p1 : ((q : Int) + (m.length : Int) + 1).toNat ≤ 70368744177664 := by
      have : ((q : Int) + (m.length : Int) + 1).toNat = q + m.length + 1 := by omega
      rw [this]; exact Nat.le_trans (show q + m.length + 1 ≤ 2000001 by omega) (by decide)
    refine Ev.pos (by omega) (Ev.pos (by omega) (Ev.pos p1 ?_))
    rw [Int.toNat_natCast]
    exact ev
  · rw [rv, bp_p2]
    have : p2 n = p2 (32 * q) * p2 (n % 32) := by rw [← p2_add (by omega) (by omega)]; congr 1; omega
    rw [this]; grind
/-- Without noughts on top. -/
theorem cut_top_ev {l : List Int} (hl : Dig l) (hn : l.length ≤ 3000000) : ∃ r, Ev (fun K => dyad_line_1.f K l) r ∧ Dig r ∧ Top r ∧ nv r = nv l ∧ r.length ≤ l.length := by
  have key : ∀ n k : Nat, k = n → k ≤ l.length → nv (l.take k) = nv l → ∃ r, Ev (fun K => dyad_line_1.l0 K l k) r ∧ Dig r ∧ Top r ∧ nv r = nv l ∧ r.length ≤ l.length := by
    intro n
    induction n with
    | zero =>
      intro k e1 e2 hv
      subst e1
      refine ⟨[], Ev.succ ?_, Dig.nil, fun h => absurd rfl h, by rw [← hv]; simp [nv], by simp⟩
      simp only [dyad_line_1.l0]
      exact Ev.neg (by omega) (Ev.pos (by omega) (Ev.pos (by omega) (Ev.now _)))
    | succ n ih =>
      intro k e1 e2 hv
      subst e1
      have hi : n < l.length := by omega
      have e : wrap64 (((n + 1 : Nat) : Int) - 1) = (n : Int) := by rw [w64 (by omega) (by omega)]; omega
      by_cases h0 : l[n] = 0
      · obtain ⟨r, ev, a, b, c, d⟩ := ih n rfl (by omega) (by rw [← hv, nv_take_succ hi, h0]; simp)
        refine ⟨r, Ev.succ ?_, a, b, c, d⟩
        simp only [dyad_line_1.l0]
        rw [e]
        exact Ev.pos (by omega) (Ev.pos (by omega) (Ev.pos (by omega) (Ev.pos (by rw [rd_nat hi]; exact h0) ev)))
      · have hlt : (l.take (n + 1)).length = n + 1 := by rw [List.length_take]; omega
        have hlast : (l.take (n + 1))[(l.take (n + 1)).length - 1]'(by omega) = l[n] := by
          rw [List.getElem_take]; congr 1; omega
        refine ⟨l.take (n + 1), Ev.succ ?_, hl.take _, Top.of_last (hl.take _) (by omega) (by rw [hlast]; exact h0), hv, by omega⟩
        simp only [dyad_line_1.l0]
        rw [e]
        refine Ev.pos (by omega) (Ev.pos (by omega) (Ev.pos (by omega) (Ev.neg (by rw [rd_nat hi]; exact h0) (Ev.pos (by omega) (Ev.pos (by omega) ?_)))))
        rw [Int.toNat_natCast]
        exact Ev.now _
  have := key l.length l.length rfl (Nat.le_refl _) (by rw [List.take_length])
  unfold dyad_line_1.f
  exact this
theorem mn_eq (a b : Int) : mn a b = if b < a then b else a := rfl
/-- Line: two numbers at one power of two. -/
theorem line_ev {n n' : Bool} {a b : List Int} {e e' : Int} (ha : Dig a) (hb : Dig b) (la : a.length ≤ 1000000) (lb : b.length ≤ 1000000) (e0 : -4000000 ≤ e) (e1 : e ≤ 4000000) (f0 : -4000000 ≤ e') (f1 : e' ≤ 4000000) :
    ∃ X Y d, Ev (fun K => dyad_line.f K n a e n' b e') (X, Y, d) ∧ d = mn e e' ∧ Dig X ∧ Dig Y ∧ Top X ∧ Top Y ∧ nv X = nv a * p2 (e - d) ∧ nv Y = nv b * p2 (e' - d) ∧ X.length ≤ 2000000 ∧ Y.length ≤ 2000000 := by
  have hd : mn e e' ≤ e ∧ mn e e' ≤ e' ∧ -4000000 ≤ mn e e' := by unfold mn; split <;> omega
  obtain ⟨r1, ev1, d1, l1, v1⟩ := up_ev ha la (n := e - mn e e') (by omega) (by omega)
  obtain ⟨X, ev2, d2, t2, v2, l2⟩ := cut_top_ev d1 (by omega)
  obtain ⟨r3, ev3, d3, l3, v3⟩ := up_ev hb lb (n := e' - mn e e') (by omega) (by omega)
  obtain ⟨Y, ev4, d4, t4, v4, l4⟩ := cut_top_ev d3 (by omega)
  refine ⟨X, Y, mn e e', ?_, rfl, d2, d4, t2, t4, by rw [v2, v1], by rw [v4, v3], by omega, by omega⟩
  unfold dyad_line.f
  rw [w64 (x := e - mn e e') (by omega) (by omega), w64 (x := e' - mn e e') (by omega) (by omega)]
  exact Ev.bind ev1 (Ev.bind ev2 (Ev.bind ev3 (Ev.bind ev4 (Ev.now _))))
theorem sgn_lt {x : Int} (h : x < 0) : sgn x = -1 := by unfold sgn; rw [if_pos h]
theorem sgn_gt {x : Int} (h : 0 < x) : sgn x = 1 := by unfold sgn; rw [if_neg (by omega), if_neg (by omega)]
theorem sgn_eq {x : Int} (h : x = 0) : sgn x = 0 := by unfold sgn; rw [if_neg (by omega), if_pos h]
theorem top_lt {X Y : List Int} (hX : Dig X) (tY : Top Y) (h : X.length < Y.length) : nv X < nv Y := by
  have h1 := (nv_bounds hX).2
  have h2 := tY (List.length_pos_iff.mp (by omega))
  have h3 := bp_mono (show X.length ≤ Y.length - 1 by omega)
  omega
theorem digit_lt {X Y : List Int} (hX : Dig X) (hY : Dig Y) {i : Nat} (hi : i < X.length) (hi' : i < Y.length) (h : nv (X.drop (i + 1)) = nv (Y.drop (i + 1))) (hlt : X[i] < Y[i]) : nv X < nv Y := by
  have a := nv_take_drop X i (by omega)
  have b := nv_take_drop Y i (by omega)
  have c := nv_drop hi
  have d := nv_drop hi'
  have e := (nv_bounds (hX.take i)).2
  rw [List.length_take, Nat.min_eq_left (by omega)] at e
  have f := (nv_bounds (hY.take i)).1
  have g := bp_pos i
  have k : bp i * (nv (X.drop i) + 1) ≤ bp i * nv (Y.drop i) := Int.mul_le_mul_of_nonneg_left (by omega) (Int.le_of_lt g)
  rw [Int.mul_add, Int.mul_one] at k
  omega
/-- Cmp: the sign of a difference. -/
theorem cmp_ev {X Y : List Int} (hX : Dig X) (hY : Dig Y) (tX : Top X) (tY : Top Y) (lX : X.length ≤ 3000000) (lY : Y.length ≤ 3000000) : Ev (fun K => dyad_cmp.f K X Y) (sgn (nv X - nv Y)) := by
  unfold dyad_cmp.f
  by_cases hl : X.length = Y.length
  · refine Ev.pos (by omega) ?_
    have key : ∀ j : Nat, j ≤ X.length → nv (X.drop j) = nv (Y.drop j) → Ev (fun K => dyad_cmp.l0 K X Y ((j : Int) - 1)) (sgn (nv X - nv Y)) := by
      intro j
      induction j with
      | zero =>
        intro _ h
        simp only [List.drop_zero] at h
        rw [sgn_eq (by omega)]
        refine Ev.succ ?_
        simp only [dyad_cmp.l0]
        exact Ev.neg (by omega) (Ev.now _)
      | succ j ih =>
        intro h1 h2
        have hi : j < X.length := by omega
        have hi' : j < Y.length := by omega
        have e : ((j + 1 : Nat) : Int) - 1 = (j : Int) := by omega
        rw [e]
        refine Ev.succ ?_
        simp only [dyad_cmp.l0]
        refine Ev.pos (by omega) (Ev.pos (by omega) (Ev.pos (by omega) (Ev.pos (by omega) ?_)))
        rw [rd_nat hi, rd_nat hi']
        by_cases h3 : X[j] = Y[j]
        · refine Ev.pos h3 ?_
          rw [w64 (by omega) (by omega)]
          exact ih (by omega) (by rw [nv_drop hi, nv_drop hi', h3, h2])
        · refine Ev.neg h3 ?_
          by_cases h4 : X[j] < Y[j]
          · have := digit_lt hX hY hi hi' h2 h4
            rw [sgn_lt (by omega)]
            exact Ev.pos h4 (Ev.now _)
          · have := digit_lt hY hX hi' hi h2.symm (by omega)
            rw [sgn_gt (by omega)]
            exact Ev.neg h4 (Ev.now _)
    have := key X.length (Nat.le_refl _) (by rw [List.drop_length, hl, List.drop_length])
    rw [w64 (by omega) (by omega)]
    exact this
  · refine Ev.neg (by omega) ?_
    by_cases h : X.length < Y.length
    · have := top_lt hX tY h
      rw [sgn_lt (by omega)]
      exact Ev.pos (by omega) (Ev.now _)
    · have := top_lt hY tX (by omega)
      rw [sgn_gt (by omega)]
      exact Ev.neg (by omega) (Ev.now _)
end Gim
