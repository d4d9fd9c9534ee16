/- Texts of this claim, one behind the other: what the functions answer. -/
import Derived.Test.YtkkfghecmhmdpaaDoorTx0
import Derived.Test.YtkkfghecmhmdpaaDoorRx0
set_option linter.constructorNameAsVariable false
set_option linter.unusedSimpArgs false
set_option linter.unusedVariables false
set_option linter.unusedSectionVars false
namespace Gim
open Go Go.RowKit Go.Proofs.YtkkfghecmhmdpaaDoorW.PrintWords Go.Proofs.YtkkfghecmhmdpaaDoorW.PrintLast Go.Proofs.YtkkfghecmhmdpaaDoorW.PrintMore Go.Proofs.YtkkfghecmhmdpaaDoor.F
set_option linter.unusedVariables false

/-- An odd number times a power of two has no more twos. -/
theorem odd_expo {N k : Int} {e d : Int} (h : N % 2 = 1) (hv : (N : Rat) * pw e = (k : Rat) * pw d) : d ≤ e := by
  refine Decidable.byContradiction fun hc => ?_
  obtain ⟨n, hn⟩ : ∃ n : Nat, d = e + ((n + 1 : Nat) : Int) := ⟨(d - e - 1).toNat, by omega⟩
  have h1 : (N : Rat) * pw e = ((k * 2 ^ (n + 1) : Int) : Rat) * pw e := by
    rw [hv, hn, pw_addNat]; push_cast; grind
  have h2 := mul_pw_inj h1
  rw [Int.pow_succ] at h2
  have h3 : k * (2 ^ n * 2) = 2 * (k * 2 ^ n) := by grind
  omega
theorem Can.unique {n n' : Bool} {m m' : List Int} {e e' : Int} (c : Can n m e) (c' : Can n' m' e') (h : nval n m e = nval n' m' e') : n = n' ∧ m = m' ∧ e = e' := by
  obtain ⟨d, t, k⟩ := c
  obtain ⟨d', t', k'⟩ := c'
  have pos : ∀ {n : Bool} {m : List Int} {e : Int}, Top m → m ≠ [] → 0 < (nv m : Rat) * pw e := by
    intro n m e t h
    have h1 : (0 : Rat) < (nv m : Rat) := by exact_mod_cast nv_pos t h
    exact Rat.mul_pos h1 (pw_pos e)
  rcases k with ⟨rfl, rfl, rfl⟩ | ⟨hne, ho⟩
  · rcases k' with ⟨rfl, rfl, rfl⟩ | ⟨hne', ho'⟩
    · exact ⟨rfl, rfl, rfl⟩
    · have := pos (n := n') (e := e') t' hne'
      unfold nval at h
      simp [nv] at h
      cases n' <;> simp at h <;> grind
  · rcases k' with ⟨rfl, rfl, rfl⟩ | ⟨hne', ho'⟩
    · have := pos (n := n) (e := e) t hne
      unfold nval at h
      simp [nv] at h
      cases n <;> simp at h <;> grind
    · have p := pos (n := n) (e := e) t hne
      have p' := pos (n := n') (e := e') t' hne'
      have hs : n = n' ∧ (nv m : Rat) * pw e = (nv m' : Rat) * pw e' := by
        unfold nval at h
        cases n <;> cases n' <;> simp at h ⊢ <;> grind
      obtain ⟨rfl, hv⟩ := hs
      have h1 := odd_expo ho hv
      have h2 := odd_expo ho' hv.symm
      obtain rfl : e = e' := by omega
      have h3 := mul_pw_inj hv
      exact ⟨rfl, t.inj d d' t' h3, rfl⟩
/-- A number in its only form, within bounds. -/
structure Nm (E : Int) (x : Rat) (n : Bool) (m : List Int) (e : Int) : Prop where
  can : Can n m e
  val : nval n m e = x
  lo : -E ≤ e
  hi : (nv m : Rat) * pw e ≤ pw E
theorem Nm.unique {E E' : Int} {x : Rat} {n n' : Bool} {m m' : List Int} {e e' : Int} (h : Nm E x n m e) (h' : Nm E' x n' m' e') : n = n' ∧ m = m' ∧ e = e' :=
  h.can.unique h'.can (h.val.trans h'.val.symm)
theorem Nm.mono {E E' : Int} {x : Rat} {n : Bool} {m : List Int} {e : Int} (h : Nm E x n m e) (hE : E ≤ E') : Nm E' x n m e :=
  ⟨h.can, h.val, by have := h.lo; omega, Rat.le_trans h.hi (pw_mono hE)⟩
theorem Nm.sizes {E : Int} {x : Rat} {n : Bool} {m : List Int} {e : Int} (h : Nm E x n m e) (h0 : 0 ≤ E) : e ≤ E ∧ 32 * (m.length : Int) ≤ 2 * E + 32 ∧ -E ≤ e := by
  obtain ⟨d, t, k⟩ := h.can
  have lo := h.lo
  rcases k with ⟨rfl, rfl, rfl⟩ | ⟨hne, ho⟩
  · simp; omega
  · have h1 := t hne
    have h2 : ((bp (m.length - 1) : Int) : Rat) * pw e ≤ (nv m : Rat) * pw e := mul_pw_le.mpr h1
    have h3 : ((bp (m.length - 1) : Int) : Rat) * pw e ≤ pw E := Rat.le_trans h2 h.hi
    rw [bp_pw, ← pw_add] at h3
    have h4 := pw_le_iff.mp h3
    have := List.length_pos_iff.mpr hne
    omega
theorem nval_neg (n : Bool) (m : List Int) (e : Int) : nval (!n) m e = -nval n m e := by unfold nval; cases n <;> simp
theorem nval_abs {n : Bool} {m : List Int} {e : Int} (hm : Dig m) : 0 ≤ (nv m : Rat) * pw e ∧ (nval n m e = (nv m : Rat) * pw e ∨ nval n m e = -((nv m : Rat) * pw e)) := by
  have h1 : (0 : Rat) ≤ (nv m : Rat) := by exact_mod_cast (nv_bounds hm).1
  refine ⟨Rat.mul_nonneg h1 (Rat.le_of_lt (pw_pos e)), ?_⟩
  unfold nval
  cases n <;> simp
theorem Nm.abs_le {E : Int} {x : Rat} {n : Bool} {m : List Int} {e : Int} (h : Nm E x n m e) : -pw E ≤ x ∧ x ≤ pw E := by
  have h1 := nval_abs (n := n) (e := e) h.can.1
  have h2 := h.hi
  have h3 := h.val
  rcases h1.2 with h4 | h4 <;> grind
/-- What is in its only form is within bounds that hold of its value. -/
theorem Nm.of {E : Int} {x : Rat} {n : Bool} {m : List Int} {e k : Int} (hE : 0 ≤ E) (c : Can n m e) (h : nval n m e = x) (hk : x = (k : Rat) * pw (-E)) (h1 : x ≤ pw E) (h2 : -pw E ≤ x) : Nm E x n m e := by
  refine ⟨c, h, ?_, ?_⟩
  · rcases c.2.2 with ⟨rfl, rfl, rfl⟩ | ⟨hne, ho⟩
    · omega
    · have h3 : ∃ k' : Int, (nv m : Rat) * pw e = (k' : Rat) * pw (-E) := by
        rcases (nval_abs (n := n) (e := e) c.1).2 with h4 | h4
        · exact ⟨k, by rw [← h4, h, hk]⟩
        · refine ⟨-k, ?_⟩
          have : (nv m : Rat) * pw e = -x := by grind
          rw [this, hk]; push_cast; grind
      obtain ⟨k', h3⟩ := h3
      exact odd_expo ho h3
  · rcases (nval_abs (n := n) (e := e) c.1).2 with h4 | h4 <;> grind
/-- A number within bounds is a whole number times their least power. -/
theorem Nm.whole {E : Int} {x : Rat} {n : Bool} {m : List Int} {e : Int} (h : Nm E x n m e) : ∃ k : Int, x = (k : Rat) * pw (-E) := by
  obtain ⟨j, hj⟩ : ∃ j : Nat, e = -E + (j : Int) := ⟨(e + E).toNat, by have := h.lo; omega⟩
  have e1 : (nv m : Rat) * pw e = ((nv m * 2 ^ j : Int) : Rat) * pw (-E) := by rw [hj, pw_addNat]; push_cast; grind
  rcases (nval_abs (n := n) (e := e) h.can.1).2 with h4 | h4
  · exact ⟨nv m * 2 ^ j, by rw [← h.val, h4, e1]⟩
  · refine ⟨-(nv m * 2 ^ j), ?_⟩
    rw [← h.val, h4, e1]; push_cast; grind

section
variable {X Y : List Int} (hX : Dig X) (hY : Dig Y) (lX : X.length ≤ 900000) {E : Int} {neg : Bool} (e0 : -4000000 ≤ E) (e1 : E ≤ 4000000)
include hX hY lX e0 e1
theorem add_l0 (hle : Y.length ≤ X.length) (a b : Bool) (c : List Int) (f : Int) : ∀ n i : Nat, X.length - i = n → i ≤ X.length → ∀ (out : List Int) (cr : Int), Dig out → out.length = i → 0 ≤ cr → cr ≤ 1 →
    nv out + bp i * cr = nv (X.take i) + nv (Y.take i) →
    ∃ n' m' e', Ev (fun K => dyad_Num_Add.l0 K X Y E out cr X.length i neg c f) (n', m', e') ∧ Can n' m' e' ∧ nval n' m' e' = (if neg then -1 else 1) * (((nv X + nv Y : Int) : Rat) * pw E) := by
  intro n
  induction n with
  | zero =>
    intro i h1 h2 out cr hd hlen c0 c1 hv
    obtain rfl : i = X.length := by omega
    have hc : cr % 4294967296 = cr := by omega
    obtain ⟨n', m', e', ev, cn, vl⟩ := trim_ev (neg := neg) (l := out ++ [cr]) (e := E) (hd.append (Dig.one c0 (by omega))) (by simp [hlen] <;> omega) (by omega) (by omega)
    refine ⟨n', m', e', Ev.succ ?_, cn, ?_⟩
    · simp only [dyad_Num_Add.l0]
      have p1 : out.length < 35184372088832 := Nat.lt_of_le_of_lt (show out.length ≤ 900000 by omega) (by decide)
      rw [hc]
      exact Ev.neg (by omega) (Ev.pos p1 (Ev.bind ev (Ev.now _)))
    · rw [vl]
      have : nv (out ++ [cr]) = nv X + nv Y := by
        rw [nv_snoc, hlen, hv, List.take_length, List.take_of_length_le hle]
      unfold nval
      rw [this]
      cases neg <;> simp <;> grind
  | succ n ih =>
    intro i h1 h2 out cr hd hlen c0 c1 hv
    have hi : i < X.length := by omega
    have hx := hX.get hi
    have p1 : out.length < 35184372088832 := Nat.lt_of_le_of_lt (show out.length ≤ 900000 by omega) (by decide)
    have hb := bp_succ i
    have hbp := bp_pos i
    have wx : IntKind.u64.wrap X[i] = X[i] := wu64 hx.1 (by omega)
    have w1 : IntKind.u64.wrap (cr + X[i]) = cr + X[i] := wu64 (by omega) (by omega)
    by_cases hy : i < Y.length
    · have hyd := hY.get hy
      have wy : IntKind.u64.wrap Y[i] = Y[i] := wu64 hyd.1 (by omega)
      have w2 : IntKind.u64.wrap (cr + X[i] + Y[i]) = cr + X[i] + Y[i] := wu64 (by omega) (by omega)
      obtain ⟨n', m', e', ev, cn, vl⟩ := ih (i + 1) (by omega) (by omega) (out ++ [(cr + X[i] + Y[i]) % 4294967296]) ((cr + X[i] + Y[i]) / 4294967296) (hd.append (Dig.one (by omega) (by omega))) (by simp [hlen]) (by omega) (by omega) (by
        have h3 := Int.emod_add_mul_ediv (cr + X[i] + Y[i]) 4294967296
        rw [nv_snoc, hlen, nv_take_succ hi, nv_take_succ hy, hb]
        grind)
      refine ⟨n', m', e', Ev.succ ?_, cn, vl⟩
      simp only [dyad_Num_Add.l0]
      refine Ev.pos (by omega) (Ev.pos (by omega) (Ev.pos (by omega) (Ev.pos (by omega) (Ev.pos p1 ?_))))
      rw [rd_nat hi, rd_nat hy, wx, w1, wy, w2, w64 (by omega) (by omega)]
      exact ev
    · obtain ⟨n', m', e', ev, cn, vl⟩ := ih (i + 1) (by omega) (by omega) (out ++ [(cr + X[i]) % 4294967296]) ((cr + X[i]) / 4294967296) (hd.append (Dig.one (by omega) (by omega))) (by simp [hlen]) (by omega) (by omega) (by
        have h3 := Int.emod_add_mul_ediv (cr + X[i]) 4294967296
        have h4 : Y.take (i + 1) = Y.take i := by rw [List.take_of_length_le (by omega), List.take_of_length_le (by omega)]
        rw [nv_snoc, hlen, nv_take_succ hi, h4, hb]
        grind)
      refine ⟨n', m', e', Ev.succ ?_, cn, vl⟩
      simp only [dyad_Num_Add.l0]
      refine Ev.pos (by omega) (Ev.pos (by omega) (Ev.pos (by omega) (Ev.neg (by omega) (Ev.pos p1 ?_))))
      rw [rd_nat hi, wx, w1, w64 (by omega) (by omega)]
      exact ev
theorem add_l1 (hle : Y.length ≤ X.length) (hv0 : nv Y ≤ nv X) : ∀ n i : Nat, X.length - i = n → i ≤ X.length → ∀ (out : List Int) (cr : Int), Dig out → out.length = i → -1 ≤ cr → cr ≤ 0 →
    nv out + bp i * cr = nv (X.take i) - nv (Y.take i) →
    ∃ n' m' e', Ev (fun K => dyad_Num_Add.l1 K X Y E neg out cr X.length i) (n', m', e') ∧ Can n' m' e' ∧ nval n' m' e' = (if neg then -1 else 1) * (((nv X - nv Y : Int) : Rat) * pw E) := by
  intro n
  induction n with
  | zero =>
    intro i h1 h2 out cr hd hlen c0 c1 hv
    obtain rfl : i = X.length := by omega
    obtain ⟨n', m', e', ev, cn, vl⟩ := trim_ev (neg := neg) (l := out) (e := E) hd (by omega) (by omega) (by omega)
    refine ⟨n', m', e', Ev.succ ?_, cn, ?_⟩
    · simp only [dyad_Num_Add.l1]
      exact Ev.neg (by omega) (Ev.bind ev (Ev.now _))
    · rw [vl]
      have hb := nv_bounds hd
      rw [hlen] at hb
      rw [List.take_length, List.take_of_length_le hle] at hv
      have hcr : cr = 0 := by
        refine Decidable.byContradiction fun hc => ?_
        obtain rfl : cr = -1 := by omega
        omega
      have : nv out = nv X - nv Y := by rw [hcr] at hv; omega
      unfold nval
      rw [this]
      cases neg <;> simp <;> grind
  | succ n ih =>
    intro i h1 h2 out cr hd hlen c0 c1 hv
    have hi : i < X.length := by omega
    have hx := hX.get hi
    have p1 : out.length < 35184372088832 := Nat.lt_of_le_of_lt (show out.length ≤ 900000 by omega) (by decide)
    have hb := bp_succ i
    have hbp := bp_pos i
    have wx : wrap64 X[i] = X[i] := w64 (by omega) (by omega)
    have w1 : wrap64 (cr + X[i]) = cr + X[i] := w64 (by omega) (by omega)
    by_cases hy : i < Y.length
    · have hyd := hY.get hy
      have wy : wrap64 Y[i] = Y[i] := w64 (by omega) (by omega)
      have w2 : wrap64 (cr + X[i] - Y[i]) = cr + X[i] - Y[i] := w64 (by omega) (by omega)
      obtain ⟨n', m', e', ev, cn, vl⟩ := ih (i + 1) (by omega) (by omega) (out ++ [(cr + X[i] - Y[i]) % 4294967296]) ((cr + X[i] - Y[i]) / 4294967296) (hd.append (Dig.one (by omega) (by omega))) (by simp [hlen]) (by omega) (by omega) (by
        have h3 := Int.emod_add_mul_ediv (cr + X[i] - Y[i]) 4294967296
        rw [nv_snoc, hlen, nv_take_succ hi, nv_take_succ hy, hb]
        grind)
      refine ⟨n', m', e', Ev.succ ?_, cn, vl⟩
      simp only [dyad_Num_Add.l1]
      refine Ev.pos (by omega) (Ev.pos (by omega) (Ev.pos (by omega) (Ev.pos (by omega) (Ev.pos p1 ?_))))
      rw [rd_nat hi, rd_nat hy, wx, w1, wy, w2, w64 (by omega) (by omega)]
      exact ev
    · obtain ⟨n', m', e', ev, cn, vl⟩ := ih (i + 1) (by omega) (by omega) (out ++ [(cr + X[i]) % 4294967296]) ((cr + X[i]) / 4294967296) (hd.append (Dig.one (by omega) (by omega))) (by simp [hlen]) (by omega) (by omega) (by
        have h3 := Int.emod_add_mul_ediv (cr + X[i]) 4294967296
        have h4 : Y.take (i + 1) = Y.take i := by rw [List.take_of_length_le (by omega), List.take_of_length_le (by omega)]
        rw [nv_snoc, hlen, nv_take_succ hi, h4, hb]
        grind)
      refine ⟨n', m', e', Ev.succ ?_, cn, vl⟩
      simp only [dyad_Num_Add.l1]
      refine Ev.pos (by omega) (Ev.pos (by omega) (Ev.pos (by omega) (Ev.neg (by omega) (Ev.pos p1 ?_))))
      rw [rd_nat hi, wx, w1, w64 (by omega) (by omega)]
      exact ev
theorem add_j0 (hle : Y.length ≤ X.length) (c : List Int) (f : Int) :
    ∃ n' m' e', Ev (fun K => dyad_Num_Add.j0 K X Y E neg c f) (n', m', e') ∧ Can n' m' e' ∧ nval n' m' e' = (if neg then -1 else 1) * (((nv X + nv Y : Int) : Rat) * pw E) := by
  obtain ⟨n', m', e', ev, cn, vl⟩ := add_l0 (neg := neg) hX hY lX e0 e1 hle true true c f X.length 0 (by omega) (by omega) [] 0 Dig.nil rfl (by omega) (by omega) (by simp [nv])
  refine ⟨n', m', e', Ev.succ ?_, cn, vl⟩
  simp only [dyad_Num_Add.j0]
  rw [w64 (by omega) (by omega)]
  have p1 : (X.length : Int) + 1 ≤ 70368744177664 := by omega
  exact Ev.pos (by omega) (Ev.pos p1 ev)
theorem nadd_j2 (hle : Y.length ≤ X.length) (hv0 : nv Y ≤ nv X) :
    ∃ n' m' e', Ev (fun K => dyad_Num_Add.j2 K X Y E neg) (n', m', e') ∧ Can n' m' e' ∧ nval n' m' e' = (if neg then -1 else 1) * (((nv X - nv Y : Int) : Rat) * pw E) := by
  obtain ⟨n', m', e', ev, cn, vl⟩ := add_l1 (neg := neg) hX hY lX e0 e1 hle hv0 X.length 0 (by omega) (by omega) [] 0 Dig.nil rfl (by omega) (by omega) (by simp [nv])
  refine ⟨n', m', e', Ev.succ ?_, cn, vl⟩
  simp only [dyad_Num_Add.j2]
  have p1 : (X.length : Int) ≤ 70368744177664 := by omega
  exact Ev.pos (Int.natCast_nonneg _) (Ev.pos p1 ev)
end
theorem shift_val {a b : List Int} {e d : Int} (h : d ≤ e) (hv : nv b = nv a * p2 (e - d)) : (nv b : Rat) * pw d = (nv a : Rat) * pw e := by
  rw [hv]
  have : pw e = ((p2 (e - d) : Int) : Rat) * pw d := by
    rw [← pw_p2 (by omega), ← pw_add]; congr 1; omega
  rw [this]; push_cast; grind
/-- THE SUM. -/
theorem num_add_ev {E : Int} {x y : Rat} {n n' : Bool} {m m' : List Int} {e e' : Int} (hE0 : 0 ≤ E) (hE : E ≤ 1000000) (a : Nm E x n m e) (b : Nm E y n' m' e') :
    ∃ r l f, Ev (fun K => dyad_Num_Add.f K n m e n' m' e') (r, l, f) ∧ Nm (E + 1) (x + y) r l f := by
  have wrap : ∀ {r : Bool} {l : List Int} {f : Int}, Can r l f → nval r l f = x + y → Nm (E + 1) (x + y) r l f := by
    intro r l f c h
    have ha := (a.mono (show E ≤ E + 1 by omega)).whole
    have hb := (b.mono (show E ≤ E + 1 by omega)).whole
    obtain ⟨k, hk⟩ := ha
    obtain ⟨k', hk'⟩ := hb
    have la := a.abs_le
    have lb := b.abs_le
    have h2 := pw_succ E
    exact Nm.of (k := k + k') (by omega) c h (by rw [hk, hk']; push_cast; grind) (by grind) (by grind)
  obtain ⟨sa1, sa2, sa3⟩ := a.sizes hE0
  obtain ⟨sb1, sb2, sb3⟩ := b.sizes hE0
  have da := a.can.1
  have db := b.can.1
  by_cases h1 : m = []
  · have h0 : x = 0 := by rw [← a.val, h1]; unfold nval; cases n <;> simp [nv]
    refine ⟨n', m', e', ?_, wrap b.can (by rw [b.val, h0]; grind)⟩
    unfold dyad_Num_Add.f
    exact Ev.pos (by rw [h1]; rfl) (Ev.now _)
  · have hl1 : ¬ ((m.length : Int) = 0) := by have := List.length_pos_iff.mpr h1; omega
    by_cases h2 : m' = []
    · have h0 : y = 0 := by rw [← b.val, h2]; unfold nval; cases n' <;> simp [nv]
      refine ⟨n, m, e, ?_, wrap a.can (by rw [a.val, h0]; grind)⟩
      unfold dyad_Num_Add.f
      exact Ev.neg hl1 (Ev.pos (by rw [h2]; rfl) (Ev.now _))
    · have hl2 : ¬ ((m'.length : Int) = 0) := by have := List.length_pos_iff.mpr h2; omega
      obtain ⟨X, Y, d, ev, hd, dX, dY, tX, tY, vX, vY, lX, lY⟩ := line_ev (n := n) (n' := n') (a := m) (b := m') (e := e) (e' := e') da db (by omega) (by omega) (by omega) (by omega) (by omega) (by omega)
      have hdd : d ≤ e ∧ d ≤ e' ∧ (-1000000 ≤ d) := by rw [hd]; unfold mn; split <;> omega
      have valX := shift_val hdd.1 vX
      have valY := shift_val hdd.2.1 vY
      have lens : X.length ≤ 900000 ∧ Y.length ≤ 900000 := by
        have hp : pw E = pw (E - d) * pw d := by rw [← pw_add]; congr 1; omega
        have key : ∀ {Z : List Int} {v : Rat}, Top Z → (nv Z : Rat) * pw d = v → v ≤ pw E → Z.length ≤ 900000 := by
          intro Z v tZ hv hle
          by_cases hz : Z = []
          · subst hz; simp
          · have h3 := tZ hz
            have h4 : ((bp (Z.length - 1) : Int) : Rat) * pw d ≤ (nv Z : Rat) * pw d := mul_pw_le.mpr h3
            rw [bp_pw, ← pw_add, hv] at h4
            have h5 := pw_le_iff.mp (Rat.le_trans h4 hle)
            omega
        exact ⟨key tX valX a.hi, key tY valY b.hi⟩
      have nvx : nval n m e = (if n then -1 else 1) * ((nv X : Rat) * pw d) := by unfold nval; rw [valX]; cases n <;> simp <;> grind
      have nvy : nval n' m' e' = (if n' then -1 else 1) * ((nv Y : Rat) * pw d) := by unfold nval; rw [valY]; cases n' <;> simp <;> grind
      rw [a.val] at nvx
      rw [b.val] at nvy
      by_cases hs : n = n'
      · subst hs
        by_cases hlt : X.length < Y.length
        · obtain ⟨r, l, f, ev2, cn, vl⟩ := add_j0 (neg := n) dY dX lens.2 (by omega) (by omega) (E := d) (by omega) m e
          refine ⟨r, l, f, ?_, wrap cn (by rw [vl, nvx, nvy]; push_cast; grind)⟩
          unfold dyad_Num_Add.f
          exact Ev.neg hl1 (Ev.neg hl2 (Ev.bind ev (Ev.pos (by simp) (Ev.pos (show (X.length : Int) < (Y.length : Int) by omega) ev2))))
        · obtain ⟨r, l, f, ev2, cn, vl⟩ := add_j0 (neg := n) dX dY lens.1 (by omega) (by omega) (E := d) (by omega) m e
          refine ⟨r, l, f, ?_, wrap cn (by rw [vl, nvx, nvy]; push_cast; grind)⟩
          unfold dyad_Num_Add.f
          exact Ev.neg hl1 (Ev.neg hl2 (Ev.bind ev (Ev.pos (by simp) (Ev.neg (show ¬ ((X.length : Int) < (Y.length : Int)) by omega) ev2))))
      · have hb : ¬ ((n == n') = true) := by simpa using hs
        have cv := cmp_ev dX dY tX tY (by omega) (by omega)
        have hop : (if n' then (-1 : Rat) else 1) = -(if n then -1 else 1) := by cases n <;> cases n' <;> simp at hs ⊢
        rw [hop] at nvy
        by_cases h0 : nv X - nv Y = 0
        · rw [sgn_eq h0] at cv
          refine ⟨false, [], 0, ?_, wrap ⟨Dig.nil, fun h => absurd rfl h, .inl ⟨rfl, rfl, rfl⟩⟩ ?_⟩
          · unfold dyad_Num_Add.f
            exact Ev.neg hl1 (Ev.neg hl2 (Ev.bind ev (Ev.neg hb (Ev.bind cv (Ev.pos rfl (Ev.now _))))))
          · have : nv X = nv Y := by omega
            rw [nvx, nvy, this]; unfold nval; simp [nv]; grind
        · by_cases hn : nv X - nv Y < 0
          · rw [sgn_lt hn] at cv
            have hle : X.length ≤ Y.length := by
              refine Decidable.byContradiction fun hc => ?_
              have := top_lt dY tX (by omega)
              omega
            obtain ⟨r, l, f, ev2, cn, vl⟩ := nadd_j2 (neg := n') dY dX lens.2 (by omega) (by omega) (E := d) hle (by omega)
            refine ⟨r, l, f, ?_, wrap cn (by rw [vl, nvx, nvy, hop]; push_cast; grind)⟩
            unfold dyad_Num_Add.f
            exact Ev.neg hl1 (Ev.neg hl2 (Ev.bind ev (Ev.neg hb (Ev.bind cv (Ev.neg (by decide) (Ev.pos rfl ev2))))))
          · rw [sgn_gt (by omega)] at cv
            have hle : Y.length ≤ X.length := by
              refine Decidable.byContradiction fun hc => ?_
              have := top_lt dX tY (by omega)
              omega
            obtain ⟨r, l, f, ev2, cn, vl⟩ := nadd_j2 (neg := n) dX dY lens.1 (by omega) (by omega) (E := d) hle (by omega)
            refine ⟨r, l, f, ?_, wrap cn (by rw [vl, nvx, nvy]; push_cast; grind)⟩
            unfold dyad_Num_Add.f
            exact Ev.neg hl1 (Ev.neg hl2 (Ev.bind ev (Ev.neg hb (Ev.bind cv (Ev.neg (by decide) (Ev.neg (by decide) ev2))))))

section
variable {A B : List Int} (hA : Dig A) (hB : Dig B) (lab : A.length + B.length ≤ 900000) {n n' : Bool} {e e' : Int}
include hA hB lab
theorem mul_l1 {Q : Bool × List Int × Int → Prop} {i : Nat} (hi : i < A.length)
    (next : ∀ out, Dig out → out.length = A.length + B.length → (∀ k, (h : k < out.length) → i + 1 + B.length ≤ k → out[k] = 0) → nv out = nv (A.take (i + 1)) * nv B → ∃ r, Ev (fun K => dyad_Num_Mul.l0 K out A A.length ((i + 1 : Nat) : Int) n A e n' B e') r ∧ Q r) :
    ∀ t j : Nat, B.length - j = t → j ≤ B.length → ∀ (out : List Int) (c : Int), Dig out → out.length = A.length + B.length → 0 ≤ c → c < 4294967296 →
      (∀ k, (h : k < out.length) → i + B.length ≤ k → out[k] = 0) → nv out + bp (i + j) * c = nv (A.take i) * nv B + bp i * (A[i] * nv (B.take j)) →
      ∃ r, Ev (fun K => dyad_Num_Mul.l1 K out i A[i] c A A.length i B B.length j n A e n' B e') r ∧ Q r := by
  intro t
  induction t with
  | zero =>
    intro j h1 h2 out c hd hl c0 c1 hz hv
    obtain rfl : j = B.length := by omega
    have hk : i + B.length < out.length := by omega
    have z0 := hz _ hk (Nat.le_refl _)
    obtain ⟨r, ev, q⟩ := next (out.set (i + B.length) c) (hd.set _ c0 c1) (by rw [List.length_set, hl]) (by
      intro k h3 h4
      rw [List.length_set] at h3
      rw [List.getElem_set_ne (by omega)]
      exact hz k h3 (by omega)) (by
      rw [nv_set hk, z0, nv_take_succ hi]
      rw [List.take_length] at hv
      grind)
    refine ⟨r, Ev.succ ?_, q⟩
    simp only [dyad_Num_Mul.l1]
    have tn : ((i : Int) + (B.length : Int)).toNat = i + B.length := by omega
    rw [w64 (x := (i : Int) + (B.length : Int)) (by omega) (by omega), w64 (x := (i : Int) + 1) (by omega) (by omega), tn, show c % 4294967296 = c by omega]
    exact Ev.neg (by omega) (Ev.pos (by omega) (Ev.pos (by omega) ev))
  | succ t ih =>
    intro j h1 h2 out c hd hl c0 c1 hz hv
    have hj : j < B.length := by omega
    have hk : i + j < out.length := by omega
    have ha := hA.get hi
    have hb := hB.get hj
    have ho := hd.get hk
    have hp := mul_bound ha.1 hb.1 (show A[i] ≤ 4294967295 by omega) (show B[j] ≤ 4294967295 by omega)
    have e3 : rd out ((i : Int) + (j : Int)) = out[i + j] := rd_nat (i := i + j) hk
    have tn : ((i : Int) + (j : Int)).toNat = i + j := by omega
    generalize hs : c + (out[i + j] + A[i] * B[j]) = s at *
    have hr := Int.emod_add_mul_ediv s 4294967296
    obtain ⟨r, ev, q⟩ := ih (j + 1) (by omega) (by omega) (out.set (i + j) (s % 4294967296)) (s / 4294967296) (hd.set _ (by omega) (by omega)) (by rw [List.length_set, hl]) (by omega) (by omega) (by
      intro k h3 h4
      rw [List.length_set] at h3
      rw [List.getElem_set_ne (by omega)]
      exact hz k h3 h4) (by
      rw [nv_set hk, nv_take_succ hj, show i + (j + 1) = i + j + 1 by omega, bp_succ]
      have hx := bp_add i j
      have h5 : bp (i + j) * (s % 4294967296 + 4294967296 * (s / 4294967296)) = bp (i + j) * (c + (out[i + j] + A[i] * B[j])) := by rw [hr, hs]
      have h6 : bp (i + j) * (A[i] * B[j]) = bp i * (bp j * (A[i] * B[j])) := by rw [hx, Int.mul_assoc]
      grind)
    refine ⟨r, Ev.succ ?_, q⟩
    simp only [dyad_Num_Mul.l1]
    rw [w64 (x := (i : Int) + (j : Int)) (by omega) (by omega), w64 (x := (j : Int) + 1) (by omega) (by omega), tn, rd_nat hj, e3, wu64 (x := A[i]) ha.1 (by omega), wu64 (x := B[j]) hb.1 (by omega), wu64 (x := out[i + j]) ho.1 (by omega), wu64 (x := A[i] * B[j]) hp.1 (by omega), wu64 (x := out[i + j] + A[i] * B[j]) (by omega) (by omega), hs, wu64 (x := s) (by omega) (by omega)]
    exact Ev.pos (by omega) (Ev.pos (by omega) (Ev.pos (by omega) (Ev.pos (by omega) (Ev.pos (by omega) ev))))
theorem mul_l0 (he : -2000000 ≤ e ∧ e ≤ 2000000) (he' : -2000000 ≤ e' ∧ e' ≤ 2000000) : ∀ t i : Nat, A.length - i = t → i ≤ A.length → ∀ (out : List Int), Dig out → out.length = A.length + B.length →
      (∀ k, (h : k < out.length) → i + B.length ≤ k → out[k] = 0) → nv out = nv (A.take i) * nv B →
      ∃ r, Ev (fun K => dyad_Num_Mul.l0 K out A A.length i n A e n' B e') r ∧ Can r.1 r.2.1 r.2.2 ∧ nval r.1 r.2.1 r.2.2 = nval n A e * nval n' B e' := by
  intro t
  induction t with
  | zero =>
    intro i h1 h2 out hd hl hz hv
    obtain rfl : i = A.length := by omega
    obtain ⟨r, l, f, ev, cn, vl⟩ := trim_ev (neg := n != n') (l := out) (e := e + e') hd (by omega) (by omega) (by omega)
    refine ⟨(r, l, f), Ev.succ ?_, cn, ?_⟩
    · simp only [dyad_Num_Mul.l0]
      rw [w64 (x := e + e') (by omega) (by omega)]
      exact Ev.neg (by omega) (Ev.bind ev (Ev.now _))
    · rw [vl]
      rw [List.take_length] at hv
      unfold nval
      rw [hv, pw_add]
      push_cast
      cases n <;> cases n' <;> simp <;> grind
  | succ t ih =>
    intro i h1 h2 out hd hl hz hv
    have hi : i < A.length := by omega
    have ha := hA.get hi
    obtain ⟨r, ev, q⟩ := mul_l1 hA hB lab (n := n) (n' := n') (e := e) (e' := e') (Q := fun r => Can r.1 r.2.1 r.2.2 ∧ nval r.1 r.2.1 r.2.2 = nval n A e * nval n' B e') hi
      (fun out a b c d => ih (i + 1) (by omega) (by omega) out a b c d) B.length 0 (by omega) (by omega) out 0 hd hl (by omega) (by omega) hz (by simp [nv, hv])
    refine ⟨r, Ev.succ ?_, q⟩
    simp only [dyad_Num_Mul.l0]
    rw [rd_nat hi]
    exact Ev.pos (by omega) (Ev.pos (by omega) (Ev.pos (by omega) ev))
end
theorem prod_le {u v P Q : Rat} (h0 : 0 ≤ u) (h1 : u ≤ P) (h2 : 0 ≤ v) (h3 : v ≤ Q) : 0 ≤ u * v ∧ u * v ≤ P * Q :=
  ⟨Rat.mul_nonneg h0 h2, Rat.le_trans (Rat.mul_le_mul_of_nonneg_right h1 h2) (Rat.mul_le_mul_of_nonneg_left h3 (Rat.le_trans h0 h1))⟩
/-- THE PRODUCT. -/
theorem num_mul_ev {E E' : Int} {x y : Rat} {n n' : Bool} {m m' : List Int} {e e' : Int} (hE0 : 0 ≤ E) (hE : E ≤ 1000000) (hE0' : 0 ≤ E') (hE' : E' ≤ 1000000) (a : Nm E x n m e) (b : Nm E' y n' m' e') :
    ∃ r l f, Ev (fun K => dyad_Num_Mul.f K n m e n' m' e') (r, l, f) ∧ Nm (E + E') (x * y) r l f := by
  have wrap : ∀ {r : Bool} {l : List Int} {f : Int}, Can r l f → nval r l f = x * y → Nm (E + E') (x * y) r l f := by
    intro r l f c h
    obtain ⟨k, hk⟩ := a.whole
    obtain ⟨k', hk'⟩ := b.whole
    have ea : pw (-(E + E')) = pw (-E) * pw (-E') := by rw [← pw_add]; congr 1; omega
    have eb : pw (E + E') = pw E * pw E' := pw_add _ _
    obtain ⟨p0, p1⟩ := nval_abs (n := n) (e := e) a.can.1
    obtain ⟨q0, q1⟩ := nval_abs (n := n') (e := e') b.can.1
    obtain ⟨r0, r1⟩ := prod_le p0 a.hi q0 b.hi
    rw [a.val] at p1
    rw [b.val] at q1
    have s1 : x * y ≤ pw (E + E') ∧ -pw (E + E') ≤ x * y := by
      rw [eb]
      rcases p1 with p1 | p1 <;> rcases q1 with q1 | q1 <;> rw [p1, q1] <;> constructor <;> grind
    exact Nm.of (k := k * k') (by omega) c h (by rw [ea, hk, hk']; push_cast; grind) s1.1 s1.2
  obtain ⟨sa1, sa2, sa3⟩ := a.sizes hE0
  obtain ⟨sb1, sb2, sb3⟩ := b.sizes hE0'
  have da := a.can.1
  have db := b.can.1
  have nought : x * y = 0 → Nm (E + E') (x * y) false [] 0 := fun h => wrap ⟨Dig.nil, fun h => absurd rfl h, .inl ⟨rfl, rfl, rfl⟩⟩ (by rw [h]; unfold nval; simp [nv])
  by_cases h1 : m = []
  · have h0 : x = 0 := by rw [← a.val, h1]; unfold nval; cases n <;> simp [nv]
    refine ⟨false, [], 0, ?_, nought (by rw [h0]; grind)⟩
    unfold dyad_Num_Mul.f
    refine Ev.pos (by rw [h1]; rfl) (Ev.succ ?_)
    simp only [dyad_Num_Mul.j0]
    exact Ev.pos trivial (Ev.now _)
  · have hl1 : ¬ ((m.length : Int) = 0) := by have := List.length_pos_iff.mpr h1; omega
    by_cases h2 : m' = []
    · have h0 : y = 0 := by rw [← b.val, h2]; unfold nval; cases n' <;> simp [nv]
      refine ⟨false, [], 0, ?_, nought (by rw [h0]; grind)⟩
      unfold dyad_Num_Mul.f
      refine Ev.neg hl1 (Ev.succ ?_)
      simp only [dyad_Num_Mul.j0]
      exact Ev.pos (by rw [h2]; rfl) (Ev.now _)
    · have hl2 : ¬ ((m'.length : Int) = 0) := by have := List.length_pos_iff.mpr h2; omega
      have lab : m.length + m'.length ≤ 900000 := by omega
      obtain ⟨⟨r, l, f⟩, ev, cn, vl⟩ := mul_l0 da db lab (n := n) (n' := n') (e := e) (e' := e') ⟨by omega, by omega⟩ ⟨by omega, by omega⟩ m.length 0 (by omega) (by omega) (List.replicate (m.length + m'.length) 0) (Dig.zeros _) (by simp) (by
        intro k h3 h4
        simp) (by rw [nv_zeros]; simp [nv])
      refine ⟨r, l, f, ?_, wrap cn (by rw [vl, a.val, b.val])⟩
      unfold dyad_Num_Mul.f
      refine Ev.neg hl1 (Ev.succ ?_)
      simp only [dyad_Num_Mul.j0]
      have tn : ((m.length : Int) + (m'.length : Int)).toNat = m.length + m'.length := by omega
      rw [w64 (x := (m.length : Int) + (m'.length : Int)) (by omega) (by omega), tn]
      have p1 : (m.length : Int) + (m'.length : Int) ≤ 70368744177664 := by omega
      exact Ev.neg (by simpa using h2) (Ev.pos (by omega) (Ev.pos p1 ev))

/-- A power of two. -/
theorem two_ev {E a : Int} (h0 : -1048576 ≤ a) (h1 : a ≤ 1048576) (h2 : -E ≤ a) (h3 : a ≤ E) : dyad_Two.f a = some (false, [1], a) ∧ Nm E (pw a) false [1] a := by
  have n1 : nv [1] = 1 := by decide
  constructor
  · unfold dyad_Two.f
    have : mx (-1048576) (mn a 1048576) = a := by unfold mx mn; grind
    rw [this]
  · refine ⟨⟨Dig.one (by decide) (by decide), fun _ => by decide, .inr ⟨by simp, by rw [n1]; rfl⟩⟩, ?_, h2, ?_⟩
    · unfold nval; rw [n1]; simp
    · rw [n1]; have := pw_mono h3; simpa using this
theorem neg_ev {E : Int} {x : Rat} {n : Bool} {m : List Int} {e : Int} (h : Nm E x n m e) : ∃ n', dyad_Num_Neg.f n m e = some (n', m, e) ∧ Nm E (-x) n' m e := by
  unfold dyad_Num_Neg.f
  by_cases c : (m.length : Int) > 0
  · rw [if_pos c]
    refine ⟨!n, rfl, ⟨h.can.1, h.can.2.1, .inr ?_⟩, by rw [nval_neg, h.val], h.lo, h.hi⟩
    rcases h.can.2.2 with ⟨rfl, _⟩ | h2
    · simp at c
    · exact h2
  · rw [if_neg c]
    have hm : m = [] := List.length_eq_zero_iff.mp (by omega)
    subst hm
    refine ⟨false, rfl, ⟨h.can.1, h.can.2.1, .inl ⟨rfl, rfl, ?_⟩⟩, ?_, h.lo, h.hi⟩
    · rcases h.can.2.2 with ⟨_, _, h3⟩ | ⟨h3, _⟩
      · exact h3
      · exact absurd rfl h3
    · rw [← h.val]; unfold nval; cases n <;> simp [nv]
/-- Bounds that hold of the value. -/
theorem Nm.fit {E E' : Int} {x : Rat} {n : Bool} {m : List Int} {e k : Int} (h : Nm E x n m e) (hE : 0 ≤ E') (hk : x = (k : Rat) * pw (-E')) (h1 : x ≤ pw E') (h2 : -pw E' ≤ x) : Nm E' x n m e :=
  Nm.of hE h.can h.val hk h1 h2
theorem int_bounds {z : Int} {E : Int} (h0 : 0 ≤ E) (h1 : z ≤ p2 E) (h2 : -p2 E ≤ z) : (z : Rat) = ((z * p2 E : Int) : Rat) * pw (-E) ∧ (z : Rat) ≤ pw E ∧ -pw E ≤ (z : Rat) := by
  rw [pw_p2 h0]
  refine ⟨?_, by exact_mod_cast h1, by have : ((-p2 E : Int) : Rat) ≤ (z : Rat) := by exact_mod_cast h2
                                       push_cast at this; exact this⟩
  have := pw_neg_mul E
  rw [pw_p2 h0] at this
  push_cast
  grind
theorem Nm.int {E E' : Int} {z : Int} {n : Bool} {m : List Int} {e : Int} (h : Nm E (z : Rat) n m e) (hE : 0 ≤ E') (h1 : z ≤ p2 E') (h2 : -p2 E' ≤ z) : Nm E' (z : Rat) n m e :=
  let b := int_bounds hE h1 h2
  h.fit hE b.1 b.2.1 b.2.2
theorem nv_two {u : Int} (h0 : 0 ≤ u) (h1 : u < 18446744073709551616) : Dig [u % 4294967296, u / 4294967296 % 4294967296] ∧ nv [u % 4294967296, u / 4294967296 % 4294967296] = u := by
  refine ⟨Dig.mk (by omega) (by omega) (Dig.one (by omega) (by omega)), ?_⟩
  simp only [nv]
  omega
end Gim
namespace Gim
open Go Go.RowKit Go.Proofs.YtkkfghecmhmdpaaDoorW.PrintWords Go.Proofs.YtkkfghecmhmdpaaDoorW.PrintLast Go.Proofs.YtkkfghecmhmdpaaDoorW.PrintMore Go.Proofs.YtkkfghecmhmdpaaDoor.F
set_option linter.unusedVariables false
set_option linter.unusedSectionVars false

theorem nval_sgd (n : Bool) (m : List Int) (e : Int) : nval n m e = (sgd n (nv m) : Rat) * pw e := by
  unfold nval sgd
  cases n
  · simp
  · simp; grind
/-- WHAT A PATTERN IS. -/
theorem of_ev {a E : Int} (hE : E = 1074) (ha : U a) (fa : fin a) : ∃ r l f, Ev (fun K => dyad_Of.f K a) (r, l, f, true) ∧ Nm E (val a) r l f := by
  obtain ⟨e1, e2⟩ := fin_expo fa
  have uM := mant_U a
  have lM := mant_lt (m := mag a)
  have parts : ∃ p q, Ev (fun k => word_Parts.f k a) (p, q) ∧ 0 ≤ p ∧ p < 9007199254740992 ∧ -1074 ≤ q ∧ q ≤ 971 ∧ val a = (sgd (neg a) p : Rat) * pw q := by
    by_cases h : 0 < mag a
    · exact ⟨_, _, word_Parts_ev ha h fa, uM.1, lM, e1, e2, val_mant a⟩
    · have h0 : mag a = 0 := by have := (mag_lt (a := a)).1; omega
      refine ⟨0, 0, word_Parts_none ha (.inl h0), by decide, by decide, by decide, by decide, ?_⟩
      rw [val_zero_iff.mpr h0]; unfold sgd; cases neg a <;> simp
  obtain ⟨p, q, ev, p0, p1, q0, q1, hv⟩ := parts
  obtain ⟨dg, vl⟩ := nv_two (u := p) (by omega) (by omega)
  obtain ⟨r, l, f, evt, cn, v⟩ := trim_ev (neg := neg a) (e := q) dg (by simp) (by omega) (by omega)
  rw [nval_sgd (neg a), vl] at v
  refine ⟨r, l, f, ?_, ?_⟩
  · unfold dyad_Of.f
    refine Ev.call (word_Finite_eq ha) (Ev.pos (decide_eq_true fa) (Ev.bind ev (Ev.call (word_Neg_eq ha) (Ev.bind evt (Ev.now _)))))
  · have hb : rabs (val a) ≤ pw E := by
      rw [hv, rabs_sgd _ p0]
      have h1 : (p : Rat) * pw q ≤ pw 53 * pw 971 := by
        refine (prod_le ?_ ?_ (Rat.le_of_lt (pw_pos q)) (pw_mono q1)).2
        · exact_mod_cast p0
        · rw [pw_p2 (a := 53) (by decide), show p2 53 = 9007199254740992 from by decide]; exact Rat.intCast_le_intCast.mpr (Int.le_of_lt p1)
      rw [← pw_add] at h1
      exact Rat.le_trans h1 (pw_mono (by omega))
    refine Nm.of (k := sgd (neg a) p * p2 (q + E)) (by omega) cn (v.trans hv.symm) ?_ ?_ ?_
    · rw [hv]
      have : pw q = ((p2 (q + E) : Int) : Rat) * pw (-E) := by rw [← pw_p2 (by omega), ← pw_add]; congr 1; omega
      rw [this]; push_cast; grind
    · unfold rabs at hb; split at hb <;> grind
    · unfold rabs at hb; split at hb <;> grind
theorem of_none {a : Int} (ha : U a) (fa : ¬ fin a) (K : Nat) : dyad_Of.f K a = some (false, [], 0, false) := by
  unfold dyad_Of.f
  rw [word_Finite_eq ha, decide_eq_false fa]
  rfl
end Gim
namespace Gim
open Go Go.RowKit Go.Proofs.YtkkfghecmhmdpaaDoorW.PrintWords Go.Proofs.YtkkfghecmhmdpaaDoorW.PrintLast Go.Proofs.YtkkfghecmhmdpaaDoorW.PrintMore Go.Proofs.YtkkfghecmhmdpaaDoor.F
set_option linter.unusedVariables false

def rsgn (x : Rat) : Int := if x = 0 then 0 else if x < 0 then -1 else 1
theorem Nm.zero {E : Int} (hE : 0 ≤ E) : Nm E 0 false [] 0 :=
  ⟨⟨Dig.nil, fun h => absurd rfl h, .inl ⟨rfl, rfl, rfl⟩⟩, by unfold nval; simp [nv], by omega, by simp [nv]; exact Rat.le_of_lt (pw_pos E)⟩
theorem num_sub_ev {E : Int} {x y : Rat} {n n' : Bool} {m m' : List Int} {e e' : Int} (hE0 : 0 ≤ E) (hE : E ≤ 1000000) (a : Nm E x n m e) (b : Nm E y n' m' e') :
    ∃ r l f, Ev (fun K => dyad_Num_Sub.f K n m e n' m' e') (r, l, f) ∧ Nm (E + 1) (x - y) r l f := by
  obtain ⟨q, e1, nm⟩ := neg_ev b
  obtain ⟨r, l, f, ev, nm2⟩ := num_add_ev hE0 hE a nm
  refine ⟨r, l, f, ?_, by rw [Rat.sub_eq_add_neg]; exact nm2⟩
  unfold dyad_Num_Sub.f
  exact Ev.call e1 (Ev.bind ev (Ev.now _))
theorem sign_eq {E : Int} {x : Rat} {n : Bool} {m : List Int} {e : Int} (a : Nm E x n m e) : dyad_Num_Sign.f n m e = some (rsgn x) := by
  have hx := a.val
  rw [nval_sgd] at hx
  unfold dyad_Num_Sign.f rsgn
  by_cases h : m = []
  · have h0 : x = 0 := by rw [← hx, h]; unfold sgd; cases n <;> simp [nv]
    rw [if_pos (by rw [h]; rfl), if_pos h0]
  · have hp := nv_pos a.can.2.1 h
    have hl : ¬ ((m.length : Int) = 0) := by have := List.length_pos_iff.mpr h; omega
    have h0 : x ≠ 0 := by
      intro h0
      rw [h0] at hx
      have := int_pw_zero.mp hx
      unfold sgd at this; split at this <;> omega
    rw [if_neg hl, if_neg h0]
    have hs : x < 0 ↔ n = true := by
      rw [← hx, int_pw_neg]
      unfold sgd; cases n <;> simp <;> omega
    cases n
    · rw [if_neg (by decide), if_neg (by rw [hs]; decide)]
    · rw [if_pos rfl, if_pos (hs.mpr rfl)]
theorem num_cmp_ev {E : Int} {x y : Rat} {n n' : Bool} {m m' : List Int} {e e' : Int} (hE0 : 0 ≤ E) (hE : E ≤ 1000000) (a : Nm E x n m e) (b : Nm E y n' m' e') :
    Ev (fun K => dyad_Num_Cmp.f K n m e n' m' e') (rsgn (x - y)) := by
  obtain ⟨r, l, f, ev, nm⟩ := num_sub_ev hE0 hE a b
  unfold dyad_Num_Cmp.f
  exact Ev.bind ev (Ev.call (sign_eq nm) (Ev.now _))

theorem int_ev {z : Int} (h0 : -9223372036854775808 ≤ z) (h1 : z ≤ 9223372036854775807) : ∃ r l f, Ev (fun K => dyad_Int.f K z) (r, l, f) ∧ Nm 64 (z : Rat) r l f := by
  have hb := int_bounds (z := z) (E := 64) (by decide) (by rw [p2_64]; omega) (by rw [p2_64]; omega)
  have wrap : ∀ {r : Bool} {l : List Int} {f : Int}, Gim.Can r l f → nval r l f = (z : Rat) → Nm 64 (z : Rat) r l f :=
    fun c h => Nm.of (by decide) c h hb.1 hb.2.1 hb.2.2
  by_cases c : z < 0
  · have w : IntKind.u64.wrap (-(IntKind.u64.wrap z)) = -z := by rw [wu64_mod, wu64_mod]; omega
    obtain ⟨dg, vl⟩ := nv_two (u := -z) (by omega) (by omega)
    obtain ⟨r, l, f, ev, cn, v⟩ := trim_ev (neg := true) (e := 0) dg (by simp) (by decide) (by decide)
    refine ⟨r, l, f, ?_, wrap cn ?_⟩
    · unfold dyad_Int.f
      rw [w, decide_eq_true c]
      exact Ev.pos c (Ev.bind ev (Ev.now _))
    · rw [v]; unfold nval; rw [vl, pw_zero]; push_cast; simp
  · have w : IntKind.u64.wrap z = z := wu64 (by omega) (by omega)
    obtain ⟨dg, vl⟩ := nv_two (u := z) (by omega) (by omega)
    obtain ⟨r, l, f, ev, cn, v⟩ := trim_ev (neg := false) (e := 0) dg (by simp) (by decide) (by decide)
    refine ⟨r, l, f, ?_, wrap cn ?_⟩
    · unfold dyad_Int.f
      rw [w, decide_eq_false c]
      exact Ev.neg c (Ev.bind ev (Ev.now _))
    · rw [v]; unfold nval; rw [vl, pw_zero]; simp
end Gim
