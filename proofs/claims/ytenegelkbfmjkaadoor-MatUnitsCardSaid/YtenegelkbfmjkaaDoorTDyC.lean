/- Exact numbers: the sum. -/
import Derived.Test.YtenegelkbfmjkaaDoorTDyB
import Derived.Test.YtenegelkbfmjkaaDoorFx8
namespace Gim
open Go Go.RowKit Go.Proofs.YtenegelkbfmjkaaDoorW.PrintWords Go.Proofs.YtenegelkbfmjkaaDoorW.PrintLast Go.Proofs.YtenegelkbfmjkaaDoorW.PrintMore Go.Proofs.YtenegelkbfmjkaaDoor.F
set_option linter.unusedVariables false

/-- An odd number times a power of two has no more twos. -/
theorem odd_expo {N k : Int} {e d : Int} (h : N % 2 = 1) (hv : (N : Rat) * pw e = (k : Rat) * pw d) : d ≤ e := by
  refine Decidable.byContradiction fun hc => ?_
  obtain ⟨n, hn⟩ : ∃ n : Nat, d = e + ((n + 1 : Nat) : Int) := ⟨(d - e - 1).toNat, by omega⟩
  have h1 : (N : Rat) * pw e = ((k * 2 ^ (n + 1) : Int) : Rat) * pw e := by
    rw [hv, hn, pw_addNat]; push_cast; grind
  have h2 := mul_pw_inj h1
  rw [Int.pow_succ] at h2
  have h3 : k * (2 ^ n * 2) = 2 * (k * 2 ^ n) := by grind
  omega
theorem Can.unique {n n' : Bool} {m m' : List Int} {e e' : Int} (c : Can n m e) (c' : Can n' m' e') (h : nval n m e = nval n' m' e') : n = n' ∧ m = m' ∧ e = e' := by
  obtain ⟨d, t, k⟩ := c
  obtain ⟨d', t', k'⟩ := c'
  have pos : ∀ {n : Bool} {m : List Int} {e : Int}, Top m → m ≠ [] → 0 < (nv m : Rat) * pw e := by
    intro n m e t h
    have h1 : (0 : Rat) < (nv m : Rat) := by exact_mod_cast nv_pos t h
    exact Rat.mul_pos h1 (pw_pos e)
  rcases k with ⟨rfl, rfl, rfl⟩ | ⟨hne, ho⟩
  · rcases k' with ⟨rfl, rfl, rfl⟩ | ⟨hne', ho'⟩
    · exact ⟨rfl, rfl, rfl⟩
    · have := pos (n := n') (e := e') t' hne'
      unfold nval at h
      simp [nv] at h
      cases n' <;> simp at h <;> grind
  · rcases k' with ⟨rfl, rfl, rfl⟩ | ⟨hne', ho'⟩
    · have := pos (n := n) (e := e) t hne
      unfold nval at h
      simp [nv] at h
      cases n <;> simp at h <;> grind
    · have p := pos (n := n) (e := e) t hne
      have p' := pos (n := n') (e := e') t' hne'
      have hs : n = n' ∧ (nv m : Rat) * pw e = (nv m' : Rat) * pw e' := by
        unfold nval at h
        cases n <;> cases n' <;> simp at h ⊢ <;> grind
      obtain ⟨rfl, hv⟩ := hs
      have h1 := odd_expo ho hv
      have h2 := odd_expo ho' hv.symm
      obtain rfl : e = e' := by omega
      have h3 := mul_pw_inj hv
      exact ⟨rfl, t.inj d d' t' h3, rfl⟩
/-- A number in its only form, within bounds. -/
structure Nm (E : Int) (x : Rat) (n : Bool) (m : List Int) (e : Int) : Prop where
  can : Can n m e
  val : nval n m e = x
  lo : -E ≤ e
  hi : (nv m : Rat) * pw e ≤ pw E
theorem Nm.unique {E E' : Int} {x : Rat} {n n' : Bool} {m m' : List Int} {e e' : Int} (h : Nm E x n m e) (h' : Nm E' x n' m' e') : n = n' ∧ m = m' ∧ e = e' :=
  h.can.unique h'.can (h.val.trans h'.val.symm)
theorem Nm.mono {E E' : Int} {x : Rat} {n : Bool} {m : List Int} {e : Int} (h : Nm E x n m e) (hE : E ≤ E') : Nm E' x n m e :=
  ⟨h.can, h.val, by have := h.lo; omega, Rat.le_trans h.hi (pw_mono hE)⟩
theorem Nm.sizes {E : Int} {x : Rat} {n : Bool} {m : List Int} {e : Int} (h : Nm E x n m e) (h0 : 0 ≤ E) : e ≤ E ∧ 32 * (m.length : Int) ≤ 2 * E + 32 ∧ -E ≤ e := by
  obtain ⟨d, t, k⟩ := h.can
  have lo := h.lo
  rcases k with ⟨rfl, rfl, rfl⟩ | ⟨hne, ho⟩
  · simp; omega
  · have h1 := t hne
    have h2 : ((bp (m.length - 1) : Int) : Rat) * pw e ≤ (nv m : Rat) * pw e := mul_pw_le.mpr h1
    have h3 : ((bp (m.length - 1) : Int) : Rat) * pw e ≤ pw E := Rat.le_trans h2 h.hi
    rw [bp_pw, ← pw_add] at h3
    have h4 := pw_le_iff.mp h3
    have := List.length_pos_iff.mpr hne
    omega
theorem nval_neg (n : Bool) (m : List Int) (e : Int) : nval (!n) m e = -nval n m e := by unfold nval; cases n <;> simp
theorem nval_abs {n : Bool} {m : List Int} {e : Int} (hm : Dig m) : 0 ≤ (nv m : Rat) * pw e ∧ (nval n m e = (nv m : Rat) * pw e ∨ nval n m e = -((nv m : Rat) * pw e)) := by
  have h1 : (0 : Rat) ≤ (nv m : Rat) := by exact_mod_cast (nv_bounds hm).1
  refine ⟨Rat.mul_nonneg h1 (Rat.le_of_lt (pw_pos e)), ?_⟩
  unfold nval
  cases n <;> simp
theorem Nm.abs_le {E : Int} {x : Rat} {n : Bool} {m : List Int} {e : Int} (h : Nm E x n m e) : -pw E ≤ x ∧ x ≤ pw E := by
  have h1 := nval_abs (n := n) (e := e) h.can.1
  have h2 := h.hi
  have h3 := h.val
  rcases h1.2 with h4 | h4 <;> grind
/-- What is in its only form is within bounds that hold of its value. -/
theorem Nm.of {E : Int} {x : Rat} {n : Bool} {m : List Int} {e k : Int} (hE : 0 ≤ E) (c : Can n m e) (h : nval n m e = x) (hk : x = (k : Rat) * pw (-E)) (h1 : x ≤ pw E) (h2 : -pw E ≤ x) : Nm E x n m e := by
  refine ⟨c, h, ?_, ?_⟩
  · rcases c.2.2 with ⟨rfl, rfl, rfl⟩ | ⟨hne, ho⟩
    · omega
    · have h3 : ∃ k' : Int, (nv m : Rat) * pw e = (k' : Rat) * pw (-E) := by
        rcases (nval_abs (n := n) (e := e) c.1).2 with h4 | h4
        · exact ⟨k, by rw [← h4, h, hk]⟩
        · refine ⟨-k, ?_⟩
          have : (nv m : Rat) * pw e = -x := by grind
          rw [this, hk]; push_cast; grind
      obtain ⟨k', h3⟩ := h3
      exact odd_expo ho h3
  · rcases (nval_abs (n := n) (e := e) c.1).2 with h4 | h4 <;> grind
/-- A number within bounds is a whole number times their least power. -/
theorem Nm.whole {E : Int} {x : Rat} {n : Bool} {m : List Int} {e : Int} (h : Nm E x n m e) : ∃ k : Int, x = (k : Rat) * pw (-E) := by
  obtain ⟨j, hj⟩ : ∃ j : Nat, e = -E + (j : Int) := ⟨(e + E).toNat, by have := h.lo; omega⟩
  have e1 : (nv m : Rat) * pw e = ((nv m * 2 ^ j : Int) : Rat) * pw (-E) := by rw [hj, pw_addNat]; push_cast; grind
  rcases (nval_abs (n := n) (e := e) h.can.1).2 with h4 | h4
  · exact ⟨nv m * 2 ^ j, by rw [← h.val, h4, e1]⟩
  · refine ⟨-(nv m * 2 ^ j), ?_⟩
    rw [← h.val, h4, e1]; push_cast; grind

section
variable {X Y : List Int} (hX : Dig X) (hY : Dig Y) (lX : X.length ≤ 900000) {E : Int} {neg : Bool} (e0 : -4000000 ≤ E) (e1 : E ≤ 4000000)
include hX hY lX e0 e1
theorem add_l0 (hle : Y.length ≤ X.length) (a b : Bool) (c : List Int) (f : Int) : ∀ n i : Nat, X.length - i = n → i ≤ X.length → ∀ (out : List Int) (cr : Int), Dig out → out.length = i → 0 ≤ cr → cr ≤ 1 →
    nv out + bp i * cr = nv (X.take i) + nv (Y.take i) →
    ∃ n' m' e', Ev (fun K => dyad_Num_Add.l0 K X Y E out cr X.length i neg c f) (n', m', e') ∧ Can n' m' e' ∧ nval n' m' e' = (if neg then -1 else 1) * (((nv X + nv Y : Int) : Rat) * pw E) := by
  intro n
  induction n with
  | zero =>
    intro i h1 h2 out cr hd hlen c0 c1 hv
    obtain rfl : i = X.length := by omega
    have hc : cr % 4294967296 = cr := by omega
    obtain ⟨n', m', e', ev, cn, vl⟩ := trim_ev (neg := neg) (l := out ++ [cr]) (e := E) (hd.append (Dig.one c0 (by omega))) (by simp [hlen] <;> omega) (by omega) (by omega)
    refine ⟨n', m', e', Ev.succ ?_, cn, ?_⟩
    · simp only [dyad_Num_Add.l0]
      have p1 : out.length < 35184372088832 := Nat.lt_of_le_of_lt (show out.length ≤ 900000 by omega) (by decide)
      rw [hc]
      exact Ev.neg (by omega) (Ev.pos p1 (Ev.bind ev (Ev.now _)))
    · rw [vl]
      have : nv (out ++ [cr]) = nv X + nv Y := by
        rw [nv_snoc, hlen, hv, List.take_length, List.take_of_length_le hle]
      unfold nval
      rw [this]
      cases neg <;> simp <;> grind
  | succ n ih =>
    intro i h1 h2 out cr hd hlen c0 c1 hv
    have hi : i < X.length := by omega
    have hx := hX.get hi
    have p1 : out.length < 35184372088832 := Nat.lt_of_le_of_lt (show out.length ≤ 900000 by omega) (by decide)
    have hb := bp_succ i
    have hbp := bp_pos i
    have wx : IntKind.u64.wrap X[i] = X[i] := wu64 hx.1 (by omega)
    have w1 : IntKind.u64.wrap (cr + X[i]) = cr + X[i] := wu64 (by omega) (by omega)
    by_cases hy : i < Y.length
    · have hyd := hY.get hy
      have wy : IntKind.u64.wrap Y[i] = Y[i] := wu64 hyd.1 (by omega)
      have w2 : IntKind.u64.wrap (cr + X[i] + Y[i]) = cr + X[i] + Y[i] := wu64 (by omega) (by omega)
      obtain ⟨n', m', e', ev, cn, vl⟩ := ih (i + 1) (by omega) (by omega) (out ++ [(cr + X[i] + Y[i]) % 4294967296]) ((cr + X[i] + Y[i]) / 4294967296) (hd.append (Dig.one (by omega) (by omega))) (by simp [hlen]) (by omega) (by omega) (by
        have h3 := Int.emod_add_mul_ediv (cr + X[i] + Y[i]) 4294967296
        rw [nv_snoc, hlen, nv_take_succ hi, nv_take_succ hy, hb]
        grind)
      refine ⟨n', m', e', Ev.succ ?_, cn, vl⟩
      simp only [dyad_Num_Add.l0]
      refine Ev.pos (by omega) (Ev.pos (by omega) (Ev.pos (by omega) (Ev.pos (by omega) (Ev.pos p1 ?_))))
      rw [rd_nat hi, rd_nat hy, wx, w1, wy, w2, w64 (by omega) (by omega)]
      exact ev
    · obtain ⟨n', m', e', ev, cn, vl⟩ := ih (i + 1) (by omega) (by omega) (out ++ [(cr + X[i]) % 4294967296]) ((cr + X[i]) / 4294967296) (hd.append (Dig.one (by omega) (by omega))) (by simp [hlen]) (by omega) (by omega) (by
        have h3 := Int.emod_add_mul_ediv (cr + X[i]) 4294967296
        have h4 : Y.take (i + 1) = Y.take i := by rw [List.take_of_length_le (by omega), List.take_of_length_le (by omega)]
        rw [nv_snoc, hlen, nv_take_succ hi, h4, hb]
        grind)
      refine ⟨n', m', e', Ev.succ ?_, cn, vl⟩
      simp only [dyad_Num_Add.l0]
      refine Ev.pos (by omega) (Ev.pos (by omega) (Ev.pos (by omega) (Ev.neg (by omega) (Ev.pos p1 ?_))))
      rw [rd_nat hi, wx, w1, w64 (by omega) (by omega)]
      exact ev
theorem add_l1 (hle : Y.length ≤ X.length) (hv0 : nv Y ≤ nv X) : ∀ n i : Nat, X.length - i = n → i ≤ X.length → ∀ (out : List Int) (cr : Int), Dig out → out.length = i → -1 ≤ cr → cr ≤ 0 →
    nv out + bp i * cr = nv (X.take i) - nv (Y.take i) →
    ∃ n' m' e', Ev (fun K => dyad_Num_Add.l1 K X Y E neg out cr X.length i) (n', m', e') ∧ Can n' m' e' ∧ nval n' m' e' = (if neg then -1 else 1) * (((nv X - nv Y : Int) : Rat) * pw E) := by
  intro n
  induction n with
  | zero =>
    intro i h1 h2 out cr hd hlen c0 c1 hv
    obtain rfl : i = X.length := by omega
    obtain ⟨n', m', e', ev, cn, vl⟩ := trim_ev (neg := neg) (l := out) (e := E) hd (by omega) (by omega) (by omega)
    refine ⟨n', m', e', Ev.succ ?_, cn, ?_⟩
    · simp only [dyad_Num_Add.l1]
      exact Ev.neg (by omega) (Ev.bind ev (Ev.now _))
    · rw [vl]
      have hb := nv_bounds hd
      rw [hlen] at hb
      rw [List.take_length, List.take_of_length_le hle] at hv
      have hcr : cr = 0 := by
        refine Decidable.byContradiction fun hc => ?_
        obtain rfl : cr = -1 := by omega
        omega
      have : nv out = nv X - nv Y := by rw [hcr] at hv; omega
      unfold nval
      rw [this]
      cases neg <;> simp <;> grind
  | succ n ih =>
    intro i h1 h2 out cr hd hlen c0 c1 hv
    have hi : i < X.length := by omega
    have hx := hX.get hi
    have p1 : out.length < 35184372088832 := Nat.lt_of_le_of_lt (show out.length ≤ 900000 by omega) (by decide)
    have hb := bp_succ i
    have hbp := bp_pos i
    have wx : wrap64 X[i] = X[i] := w64 (by omega) (by omega)
    have w1 : wrap64 (cr + X[i]) = cr + X[i] := w64 (by omega) (by omega)
    by_cases hy : i < Y.length
    · have hyd := hY.get hy
      have wy : wrap64 Y[i] = Y[i] := w64 (by omega) (by omega)
      have w2 : wrap64 (cr + X[i] - Y[i]) = cr + X[i] - Y[i] := w64 (by omega) (by omega)
      obtain ⟨n', m', e', ev, cn, vl⟩ := ih (i + 1) (by omega) (by omega) (out ++ [(cr + X[i] - Y[i]) % 4294967296]) ((cr + X[i] - Y[i]) / 4294967296) (hd.append (Dig.one (by omega) (by omega))) (by simp [hlen]) (by omega) (by omega) (by
        have h3 := Int.emod_add_mul_ediv (cr + X[i] - Y[i]) 4294967296
        rw [nv_snoc, hlen, nv_take_succ hi, nv_take_succ hy, hb]
        grind)
      refine ⟨n', m', e', Ev.succ ?_, cn, vl⟩
      simp only [dyad_Num_Add.l1]
      refine Ev.pos (by omega) (Ev.pos (by omega) (Ev.pos (by omega) (Ev.pos (by omega) (Ev.pos p1 ?_))))
      rw [rd_nat hi, rd_nat hy, wx, w1, wy, w2, w64 (by omega) (by omega)]
      exact ev
    · obtain ⟨n', m', e', ev, cn, vl⟩ := ih (i + 1) (by omega) (by omega) (out ++ [(cr + X[i]) % 4294967296]) ((cr + X[i]) / 4294967296) (hd.append (Dig.one (by omega) (by omega))) (by simp [hlen]) (by omega) (by omega) (by
        have h3 := Int.emod_add_mul_ediv (cr + X[i]) 4294967296
        have h4 : Y.take (i + 1) = Y.take i := by rw [List.take_of_length_le (by omega), List.take_of_length_le (by omega)]
        rw [nv_snoc, hlen, nv_take_succ hi, h4, hb]
        grind)
      refine ⟨n', m', e', Ev.succ ?_, cn, vl⟩
      simp only [dyad_Num_Add.l1]
      refine Ev.pos (by omega) (Ev.pos (by omega) (Ev.pos (by omega) (Ev.neg (by omega) (Ev.pos p1 ?_))))
      rw [rd_nat hi, wx, w1, w64 (by omega) (by omega)]
      exact ev
theorem add_j0 (hle : Y.length ≤ X.length) (c : List Int) (f : Int) :
    ∃ n' m' e', Ev (fun K => dyad_Num_Add.j0 K X Y E neg c f) (n', m', e') ∧ Can n' m' e' ∧ nval n' m' e' = (if neg then -1 else 1) * (((nv X + nv Y : Int) : Rat) * pw E) := by
  obtain ⟨n', m', e', ev, cn, vl⟩ := add_l0 (neg := neg) hX hY lX e0 e1 hle true true c f X.length 0 (by omega) (by omega) [] 0 Dig.nil rfl (by omega) (by omega) (by simp [nv])
  refine ⟨n', m', e', Ev.succ ?_, cn, vl⟩
  simp only [dyad_Num_Add.j0]
  rw [w64 (by omega) (by omega)]
  have p1 : ((X.length : Int) + 1).toNat ≤ 70368744177664 := by
    have : ((X.length : Int) + 1).toNat = X.length + 1 := by omega
    rw [this]; exact Nat.le_trans (show X.length + 1 ≤ 900001 by omega) (by decide)
  exact Ev.pos (by omega) (Ev.pos p1 ev)
theorem add_j2 (hle : Y.length ≤ X.length) (hv0 : nv Y ≤ nv X) :
    ∃ n' m' e', Ev (fun K => dyad_Num_Add.j2 K X Y E neg) (n', m', e') ∧ Can n' m' e' ∧ nval n' m' e' = (if neg then -1 else 1) * (((nv X - nv Y : Int) : Rat) * pw E) := by
  obtain ⟨n', m', e', ev, cn, vl⟩ := add_l1 (neg := neg) hX hY lX e0 e1 hle hv0 X.length 0 (by omega) (by omega) [] 0 Dig.nil rfl (by omega) (by omega) (by simp [nv])
  refine ⟨n', m', e', Ev.succ ?_, cn, vl⟩
  simp only [dyad_Num_Add.j2]
  have p1 : (X.length : Int).toNat ≤ 70368744177664 := by rw [Int.toNat_natCast]; exact Nat.le_trans lX (by decide)
  exact Ev.pos (Int.natCast_nonneg _) (Ev.pos p1 ev)
end
theorem shift_val {a b : List Int} {e d : Int} (h : d ≤ e) (hv : nv b = nv a * p2 (e - d)) : (nv b : Rat) * pw d = (nv a : Rat) * pw e := by
  rw [hv]
  have : pw e = ((p2 (e - d) : Int) : Rat) * pw d := by
    rw [← pw_p2 (by omega), ← pw_add]; congr 1; omega
  rw [this]; push_cast; grind
/-- THE SUM. -/
theorem num_add_ev {E : Int} {x y : Rat} {n n' : Bool} {m m' : List Int} {e e' : Int} (hE0 : 0 ≤ E) (hE : E ≤ 1000000) (a : Nm E x n m e) (b : Nm E y n' m' e') :
    ∃ r l f, Ev (fun K => dyad_Num_Add.f K n m e n' m' e') (r, l, f) ∧ Nm (E + 1) (x + y) r l f := by
  have wrap : ∀ {r : Bool} {l : List Int} {f : Int}, Can r l f → nval r l f = x + y → Nm (E + 1) (x + y) r l f := by
    intro r l f c h
    have ha := (a.mono (show E ≤ E + 1 by omega)).whole
    have hb := (b.mono (show E ≤ E + 1 by omega)).whole
    obtain ⟨k, hk⟩ := ha
    obtain ⟨k', hk'⟩ := hb
    have la := a.abs_le
    have lb := b.abs_le
    have h2 := pw_succ E
    exact Nm.of (k := k + k') (by omega) c h (by rw [hk, hk']; push_cast; grind) (by grind) (by grind)
  obtain ⟨sa1, sa2, sa3⟩ := a.sizes hE0
  obtain ⟨sb1, sb2, sb3⟩ := b.sizes hE0
  have da := a.can.1
  have db := b.can.1
  by_cases h1 : m = []
  · have h0 : x = 0 := by rw [← a.val, h1]; unfold nval; cases n <;> simp [nv]
    refine ⟨n', m', e', ?_, wrap b.can (by rw [b.val, h0]; grind)⟩
    unfold dyad_Num_Add.f
    exact Ev.pos (by rw [h1]; rfl) (Ev.now _)
  · have hl1 : ¬ ((m.length : Int) = 0) := by have := List.length_pos_iff.mpr h1; omega
    by_cases h2 : m' = []
    · have h0 : y = 0 := by rw [← b.val, h2]; unfold nval; cases n' <;> simp [nv]
      refine ⟨n, m, e, ?_, wrap a.can (by rw [a.val, h0]; grind)⟩
      unfold dyad_Num_Add.f
      exact Ev.neg hl1 (Ev.pos (by rw [h2]; rfl) (Ev.now _))
    · have hl2 : ¬ ((m'.length : Int) = 0) := by have := List.length_pos_iff.mpr h2; omega
      obtain ⟨X, Y, d, ev, hd, dX, dY, tX, tY, vX, vY, lX, lY⟩ := line_ev (n := n) (n' := n') (a := m) (b := m') (e := e) (e' := e') da db (by omega) (by omega) (by omega) (by omega) (by omega) (by omega)
      have hdd : d ≤ e ∧ d ≤ e' ∧ (-1000000 ≤ d) := by rw [hd]; unfold mn; split <;> omega
      have valX := shift_val hdd.1 vX
      have valY := shift_val hdd.2.1 vY
      have lens : X.length ≤ 900000 ∧ Y.length ≤ 900000 := by
        have hp : pw E = pw (E - d) * pw d := by rw [← pw_add]; congr 1; omega
        have key : ∀ {Z : List Int} {v : Rat}, Top Z → (nv Z : Rat) * pw d = v → v ≤ pw E → Z.length ≤ 900000 := by
          intro Z v tZ hv hle
          by_cases hz : Z = []
          · subst hz; simp
          · have h3 := tZ hz
            have h4 : ((bp (Z.length - 1) : Int) : Rat) * pw d ≤ (nv Z : Rat) * pw d := mul_pw_le.mpr h3
            rw [bp_pw, ← pw_add, hv] at h4
            have h5 := pw_le_iff.mp (Rat.le_trans h4 hle)
            omega
        exact ⟨key tX valX a.hi, key tY valY b.hi⟩
      have nvx : nval n m e = (if n then -1 else 1) * ((nv X : Rat) * pw d) := by unfold nval; rw [valX]; cases n <;> simp <;> grind
      have nvy : nval n' m' e' = (if n' then -1 else 1) * ((nv Y : Rat) * pw d) := by unfold nval; rw [valY]; cases n' <;> simp <;> grind
      rw [a.val] at nvx
      rw [b.val] at nvy
      by_cases hs : n = n'
      · subst hs
        by_cases hlt : X.length < Y.length
        · obtain ⟨r, l, f, ev2, cn, vl⟩ := add_j0 (neg := n) dY dX lens.2 (by omega) (by omega) (E := d) (by omega) m e
          refine ⟨r, l, f, ?_, wrap cn (by rw [vl, nvx, nvy]; push_cast; grind)⟩
          unfold dyad_Num_Add.f
          exact Ev.neg hl1 (Ev.neg hl2 (Ev.bind ev (Ev.pos (by simp) (Ev.pos (show (X.length : Int) < (Y.length : Int) by omega) ev2))))
        · obtain ⟨r, l, f, ev2, cn, vl⟩ := add_j0 (neg := n) dX dY lens.1 (by omega) (by omega) (E := d) (by omega) m e
          refine ⟨r, l, f, ?_, wrap cn (by rw [vl, nvx, nvy]; push_cast; grind)⟩
          unfold dyad_Num_Add.f
          exact Ev.neg hl1 (Ev.neg hl2 (Ev.bind ev (Ev.pos (by simp) (Ev.neg (show ¬ ((X.length : Int) < (Y.length : Int)) by omega) ev2))))
      · have hb : ¬ ((n == n') = true) := by simpa using hs
        have cv := cmp_ev dX dY tX tY (by omega) (by omega)
        have hop : (if n' then (-1 : Rat) else 1) = -(if n then -1 else 1) := by cases n <;> cases n' <;> simp at hs ⊢
        rw [hop] at nvy
        by_cases h0 : nv X - nv Y = 0
        · rw [sgn_eq h0] at cv
          refine ⟨false, [], 0, ?_, wrap ⟨Dig.nil, fun h => absurd rfl h, .inl ⟨rfl, rfl, rfl⟩⟩ ?_⟩
          · unfold dyad_Num_Add.f
            exact Ev.neg hl1 (Ev.neg hl2 (Ev.bind ev (Ev.neg hb (Ev.bind cv (Ev.pos rfl (Ev.now _))))))
          · have : nv X = nv Y := by omega
            rw [nvx, nvy, this]; unfold nval; simp [nv]; grind
        · by_cases hn : nv X - nv Y < 0
          · rw [sgn_lt hn] at cv
            have hle : X.length ≤ Y.length := by
              refine Decidable.byContradiction fun hc => ?_
              have := top_lt dY tX (by omega)
              omega
            obtain ⟨r, l, f, ev2, cn, vl⟩ := add_j2 (neg := n') dY dX lens.2 (by omega) (by omega) (E := d) hle (by omega)
            refine ⟨r, l, f, ?_, wrap cn (by rw [vl, nvx, nvy, hop]; push_cast; grind)⟩
            unfold dyad_Num_Add.f
            exact Ev.neg hl1 (Ev.neg hl2 (Ev.bind ev (Ev.neg hb (Ev.bind cv (Ev.neg (by decide) (Ev.pos rfl ev2))))))
          · rw [sgn_gt (by omega)] at cv
            have hle : Y.length ≤ X.length := by
              refine Decidable.byContradiction fun hc => ?_
              have := top_lt dX tY (by omega)
              omega
            obtain ⟨r, l, f, ev2, cn, vl⟩ := add_j2 (neg := n) dX dY lens.1 (by omega) (by omega) (E := d) hle (by omega)
            refine ⟨r, l, f, ?_, wrap cn (by rw [vl, nvx, nvy]; push_cast; grind)⟩
            unfold dyad_Num_Add.f
            exact Ev.neg hl1 (Ev.neg hl2 (Ev.bind ev (Ev.neg hb (Ev.bind cv (Ev.neg (by decide) (Ev.neg (by decide) ev2))))))
end Gim
