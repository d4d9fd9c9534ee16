/- Exact numbers: the product, powers of two, whole numbers, the same number. -/
import Derived.Test.YtenegelkbfmjkaaDoorTDyC
import Derived.Test.YtenegelkbfmjkaaDoorFx9
import Derived.Test.YtenegelkbfmjkaaDoorFx12
namespace Gim
open Go Go.RowKit Go.Proofs.YtenegelkbfmjkaaDoorW.PrintWords Go.Proofs.YtenegelkbfmjkaaDoorW.PrintLast Go.Proofs.YtenegelkbfmjkaaDoorW.PrintMore Go.Proofs.YtenegelkbfmjkaaDoor.F
set_option linter.unusedVariables false

section
variable {A B : List Int} (hA : Dig A) (hB : Dig B) (lab : A.length + B.length ≤ 900000) {n n' : Bool} {e e' : Int}
include hA hB lab
theorem mul_l1 {Q : Bool × List Int × Int → Prop} {i : Nat} (hi : i < A.length)
    (next : ∀ out, Dig out → out.length = A.length + B.length → (∀ k, (h : k < out.length) → i + 1 + B.length ≤ k → out[k] = 0) → nv out = nv (A.take (i + 1)) * nv B → ∃ r, Ev (fun K => dyad_Num_Mul.l0 K out A A.length ((i + 1 : Nat) : Int) n A e n' B e') r ∧ Q r) :
    ∀ t j : Nat, B.length - j = t → j ≤ B.length → ∀ (out : List Int) (c : Int), Dig out → out.length = A.length + B.length → 0 ≤ c → c < 4294967296 →
      (∀ k, (h : k < out.length) → i + B.length ≤ k → out[k] = 0) → nv out + bp (i + j) * c = nv (A.take i) * nv B + bp i * (A[i] * nv (B.take j)) →
      ∃ r, Ev (fun K => dyad_Num_Mul.l1 K out i A[i] c A A.length i B B.length j n A e n' B e') r ∧ Q r := by
  intro t
  induction t with
  | zero =>
    intro j h1 h2 out c hd hl c0 c1 hz hv
    obtain rfl : j = B.length := by omega
    have hk : i + B.length < out.length := by omega
    have z0 := hz _ hk (Nat.le_refl _)
    obtain ⟨r, ev, q⟩ := next (out.set (i + B.length) c) (hd.set _ c0 c1) (by rw [List.length_set, hl]) (by
      intro k h3 h4
      rw [List.length_set] at h3
      rw [List.getElem_set_ne (by omega)]
      exact hz k h3 (by omega)) (by
      rw [nv_set hk, z0, nv_take_succ hi]
      rw [List.take_length] at hv
      grind)
    refine ⟨r, Ev.succ ?_, q⟩
    simp only [dyad_Num_Mul.l1]
    have tn : ((i : Int) + (B.length : Int)).toNat = i + B.length := by omega
    rw [w64 (x := (i : Int) + (B.length : Int)) (by omega) (by omega), w64 (x := (i : Int) + 1) (by omega) (by omega), tn, show c % 4294967296 = c by omega]
    exact Ev.neg (by omega) (Ev.pos (by omega) (Ev.pos (by omega) ev))
  | succ t ih =>
    intro j h1 h2 out c hd hl c0 c1 hz hv
    have hj : j < B.length := by omega
    have hk : i + j < out.length := by omega
    have ha := hA.get hi
    have hb := hB.get hj
    have ho := hd.get hk
    have hp := mul_bound ha.1 hb.1 (show A[i] ≤ 4294967295 by omega) (show B[j] ≤ 4294967295 by omega)
    have e3 : rd out ((i : Int) + (j : Int)) = out[i + j] := rd_nat (i := i + j) hk
    have tn : ((i : Int) + (j : Int)).toNat = i + j := by omega
    generalize hs : c + (out[i + j] + A[i] * B[j]) = s at *
    have hr := Int.emod_add_mul_ediv s 4294967296
    obtain ⟨r, ev, q⟩ := ih (j + 1) (by omega) (by omega) (out.set (i + j) (s % 4294967296)) (s / 4294967296) (hd.set _ (by omega) (by omega)) (by rw [List.length_set, hl]) (by omega) (by omega) (by
      intro k h3 h4
      rw [List.length_set] at h3
      rw [List.getElem_set_ne (by omega)]
      exact hz k h3 h4) (by
      rw [nv_set hk, nv_take_succ hj, show i + (j + 1) = i + j + 1 by omega, bp_succ]
      have hx := bp_add i j
      have h5 : bp (i + j) * (s % 4294967296 + 4294967296 * (s / 4294967296)) = bp (i + j) * (c + (out[i + j] + A[i] * B[j])) := by rw [hr, hs]
      have h6 : bp (i + j) * (A[i] * B[j]) = bp i * (bp j * (A[i] * B[j])) := by rw [hx, Int.mul_assoc]
      grind)
    refine ⟨r, Ev.succ ?_, q⟩
    simp only [dyad_Num_Mul.l1]
    rw [w64 (x := (i : Int) + (j : Int)) (by omega) (by omega), w64 (x := (j : Int) + 1) (by omega) (by omega), tn, rd_nat hj, e3, wu64 (x := A[i]) ha.1 (by omega), wu64 (x := B[j]) hb.1 (by omega), wu64 (x := out[i + j]) ho.1 (by omega), wu64 (x := A[i] * B[j]) hp.1 (by omega), wu64 (x := out[i + j] + A[i] * B[j]) (by omega) (by omega), hs, wu64 (x := s) (by omega) (by omega)]
    exact Ev.pos (by omega) (Ev.pos (by omega) (Ev.pos (by omega) (Ev.pos (by omega) (Ev.pos (by omega) ev))))
theorem mul_l0 (he : -2000000 ≤ e ∧ e ≤ 2000000) (he' : -2000000 ≤ e' ∧ e' ≤ 2000000) : ∀ t i : Nat, A.length - i = t → i ≤ A.length → ∀ (out : List Int), Dig out → out.length = A.length + B.length →
      (∀ k, (h : k < out.length) → i + B.length ≤ k → out[k] = 0) → nv out = nv (A.take i) * nv B →
      ∃ r, Ev (fun K => dyad_Num_Mul.l0 K out A A.length i n A e n' B e') r ∧ Can r.1 r.2.1 r.2.2 ∧ nval r.1 r.2.1 r.2.2 = nval n A e * nval n' B e' := by
  intro t
  induction t with
  | zero =>
    intro i h1 h2 out hd hl hz hv
    obtain rfl : i = A.length := by omega
    obtain ⟨r, l, f, ev, cn, vl⟩ := trim_ev (neg := n != n') (l := out) (e := e + e') hd (by omega) (by omega) (by omega)
    refine ⟨(r, l, f), Ev.succ ?_, cn, ?_⟩
    · simp only [dyad_Num_Mul.l0]
      rw [w64 (x := e + e') (by omega) (by omega)]
      exact Ev.neg (by omega) (Ev.bind ev (Ev.now _))
    · rw [vl]
      rw [List.take_length] at hv
      unfold nval
      rw [hv, pw_add]
      push_cast
      cases n <;> cases n' <;> simp <;> grind
  | succ t ih =>
    intro i h1 h2 out hd hl hz hv
    have hi : i < A.length := by omega
    have ha := hA.get hi
    obtain ⟨r, ev, q⟩ := mul_l1 hA hB lab (n := n) (n' := n') (e := e) (e' := e') (Q := fun r => Can r.1 r.2.1 r.2.2 ∧ nval r.1 r.2.1 r.2.2 = nval n A e * nval n' B e') hi
      (fun out a b c d => ih (i + 1) (by omega) (by omega) out a b c d) B.length 0 (by omega) (by omega) out 0 hd hl (by omega) (by omega) hz (by simp [nv, hv])
    refine ⟨r, Ev.succ ?_, q⟩
    simp only [dyad_Num_Mul.l0]
    rw [rd_nat hi]
    exact Ev.pos (by omega) (Ev.pos (by omega) (Ev.pos (by omega) ev))
end
theorem prod_le {u v P Q : Rat} (h0 : 0 ≤ u) (h1 : u ≤ P) (h2 : 0 ≤ v) (h3 : v ≤ Q) : 0 ≤ u * v ∧ u * v ≤ P * Q :=
  ⟨Rat.mul_nonneg h0 h2, Rat.le_trans (Rat.mul_le_mul_of_nonneg_right h1 h2) (Rat.mul_le_mul_of_nonneg_left h3 (Rat.le_trans h0 h1))⟩
/-- THE PRODUCT. -/
theorem num_mul_ev {E E' : Int} {x y : Rat} {n n' : Bool} {m m' : List Int} {e e' : Int} (hE0 : 0 ≤ E) (hE : E ≤ 1000000) (hE0' : 0 ≤ E') (hE' : E' ≤ 1000000) (a : Nm E x n m e) (b : Nm E' y n' m' e') :
    ∃ r l f, Ev (fun K => dyad_Num_Mul.f K n m e n' m' e') (r, l, f) ∧ Nm (E + E') (x * y) r l f := by
  have wrap : ∀ {r : Bool} {l : List Int} {f : Int}, Can r l f → nval r l f = x * y → Nm (E + E') (x * y) r l f := by
    intro r l f c h
    obtain ⟨k, hk⟩ := a.whole
    obtain ⟨k', hk'⟩ := b.whole
    have ea : pw (-(E + E')) = pw (-E) * pw (-E') := by rw [← pw_add]; congr 1; omega
    have eb : pw (E + E') = pw E * pw E' := pw_add _ _
    obtain ⟨p0, p1⟩ := nval_abs (n := n) (e := e) a.can.1
    obtain ⟨q0, q1⟩ := nval_abs (n := n') (e := e') b.can.1
    obtain ⟨r0, r1⟩ := prod_le p0 a.hi q0 b.hi
    rw [a.val] at p1
    rw [b.val] at q1
    have s1 : x * y ≤ pw (E + E') ∧ -pw (E + E') ≤ x * y := by
      rw [eb]
      rcases p1 with p1 | p1 <;> rcases q1 with q1 | q1 <;> rw [p1, q1] <;> constructor <;> grind
    exact Nm.of (k := k * k') (by omega) c h (by rw [ea, hk, hk']; push_cast; grind) s1.1 s1.2
  obtain ⟨sa1, sa2, sa3⟩ := a.sizes hE0
  obtain ⟨sb1, sb2, sb3⟩ := b.sizes hE0'
  have da := a.can.1
  have db := b.can.1
  have nought : x * y = 0 → Nm (E + E') (x * y) false [] 0 := fun h => wrap ⟨Dig.nil, fun h => absurd rfl h, .inl ⟨rfl, rfl, rfl⟩⟩ (by rw [h]; unfold nval; simp [nv])
  by_cases h1 : m = []
  · have h0 : x = 0 := by rw [← a.val, h1]; unfold nval; cases n <;> simp [nv]
    refine ⟨false, [], 0, ?_, nought (by rw [h0]; grind)⟩
    unfold dyad_Num_Mul.f
    refine Ev.pos (by rw [h1]; rfl) (Ev.succ ?_)
    simp only [dyad_Num_Mul.j0]
    exact Ev.pos trivial (Ev.now _)
  · have hl1 : ¬ ((m.length : Int) = 0) := by have := List.length_pos_iff.mpr h1; omega
    by_cases h2 : m' = []
    · have h0 : y = 0 := by rw [← b.val, h2]; unfold nval; cases n' <;> simp [nv]
      refine ⟨false, [], 0, ?_, nought (by rw [h0]; grind)⟩
      unfold dyad_Num_Mul.f
      refine Ev.neg hl1 (Ev.succ ?_)
      simp only [dyad_Num_Mul.j0]
      exact Ev.pos (by rw [h2]; rfl) (Ev.now _)
    · have hl2 : ¬ ((m'.length : Int) = 0) := by have := List.length_pos_iff.mpr h2; omega
      have lab : m.length + m'.length ≤ 900000 := by omega
      obtain ⟨⟨r, l, f⟩, ev, cn, vl⟩ := mul_l0 da db lab (n := n) (n' := n') (e := e) (e' := e') ⟨by omega, by omega⟩ ⟨by omega, by omega⟩ m.length 0 (by omega) (by omega) (List.replicate (m.length + m'.length) 0) (Dig.zeros _) (by simp) (by
        intro k h3 h4
        simp) (by rw [nv_zeros]; simp [nv])
      refine ⟨r, l, f, ?_, wrap cn (by rw [vl, a.val, b.val])⟩
      unfold dyad_Num_Mul.f
      refine Ev.neg hl1 (Ev.succ ?_)
      simp only [dyad_Num_Mul.j0]
      have tn : ((m.length : Int) + (m'.length : Int)).toNat = m.length + m'.length := by omega
      rw [w64 (x := (m.length : Int) + (m'.length : Int)) (by omega) (by omega), tn]
      have p1 : m.length + m'.length ≤ 70368744177664 := Nat.le_trans lab (by decide)
      exact Ev.neg (by simpa using h2) (Ev.pos (by omega) (Ev.pos p1 ev))

/-- A power of two. -/
theorem two_ev {E a : Int} (h0 : -1048576 ≤ a) (h1 : a ≤ 1048576) (h2 : -E ≤ a) (h3 : a ≤ E) : dyad_Two.f a = some (false, [1], a) ∧ Nm E (pw a) false [1] a := by
  have n1 : nv [1] = 1 := by decide
  constructor
  · unfold dyad_Two.f
    have : mx (-1048576) (mn a 1048576) = a := by unfold mx mn; grind
    rw [this]
  · refine ⟨⟨Dig.one (by decide) (by decide), fun _ => by decide, .inr ⟨by simp, by rw [n1]; rfl⟩⟩, ?_, h2, ?_⟩
    · unfold nval; rw [n1]; simp
    · rw [n1]; have := pw_mono h3; simpa using this
theorem neg_ev {E : Int} {x : Rat} {n : Bool} {m : List Int} {e : Int} (h : Nm E x n m e) : ∃ n', dyad_Num_Neg.f n m e = some (n', m, e) ∧ Nm E (-x) n' m e := by
  unfold dyad_Num_Neg.f
  by_cases c : (m.length : Int) > 0
  · rw [if_pos c]
    refine ⟨!n, rfl, ⟨h.can.1, h.can.2.1, .inr ?_⟩, by rw [nval_neg, h.val], h.lo, h.hi⟩
    rcases h.can.2.2 with ⟨rfl, _⟩ | h2
    · simp at c
    · exact h2
  · rw [if_neg c]
    have hm : m = [] := List.length_eq_zero_iff.mp (by omega)
    subst hm
    refine ⟨false, rfl, ⟨h.can.1, h.can.2.1, .inl ⟨rfl, rfl, ?_⟩⟩, ?_, h.lo, h.hi⟩
    · rcases h.can.2.2 with ⟨_, _, h3⟩ | ⟨h3, _⟩
      · exact h3
      · exact absurd rfl h3
    · rw [← h.val]; unfold nval; cases n <;> simp [nv]
theorem eq_l0 {l l' : List Int} (hl : l.length = l'.length) (hn : l.length ≤ 1000000) : ∀ t i : Nat, l.length - i = t → i ≤ l.length → Ev (fun K => slices_Equal_uint32_uint32.l0 K l l' l.length i) (decide (l.drop i = l'.drop i)) := by
  intro t
  induction t with
  | zero =>
    intro i h1 h2
    obtain rfl : i = l.length := by omega
    refine Ev.succ ?_
    simp only [slices_Equal_uint32_uint32.l0]
    have : decide (l.drop l.length = l'.drop l.length) = true := by simp [hl]
    rw [this]
    exact Ev.neg (by omega) (Ev.now _)
  | succ t ih =>
    intro i h1 h2
    have hi : i < l.length := by omega
    have hi' : i < l'.length := by omega
    refine Ev.succ ?_
    simp only [slices_Equal_uint32_uint32.l0]
    refine Ev.pos (by omega) (Ev.pos (by omega) (Ev.pos (by omega) (Ev.pos (by omega) ?_)))
    have key : (l.drop i = l'.drop i) ↔ (l[i] = l'[i] ∧ l.drop (i + 1) = l'.drop (i + 1)) := by rw [List.drop_eq_getElem_cons hi, List.drop_eq_getElem_cons hi', List.cons.injEq]
    rw [rd_nat hi, rd_nat hi', w64 (by omega) (by omega)]
    by_cases c : l[i] = l'[i]
    · have := ih (i + 1) (by omega) (by omega)
      refine Ev.pos c ?_
      have e : decide (l.drop i = l'.drop i) = decide (l.drop (i + 1) = l'.drop (i + 1)) := decide_eq_decide.mpr (key.trans ⟨fun h => h.2, fun h => ⟨c, h⟩⟩)
      rw [e]
      exact this
    · refine Ev.neg c ?_
      have e : decide (l.drop i = l'.drop i) = false := decide_eq_false fun h => c (key.mp h).1
      rw [e]
      exact Ev.now _
theorem eq_ev {l l' : List Int} (hn : l.length ≤ 1000000) : Ev (fun K => slices_Equal_uint32_uint32.f K l l') (decide (l = l')) := by
  unfold slices_Equal_uint32_uint32.f
  by_cases c : l.length = l'.length
  · exact Ev.pos (by omega) (eq_l0 c hn l.length 0 (by omega) (by omega))
  · have : decide (l = l') = false := decide_eq_false fun h => c (by rw [h])
    rw [this]
    exact Ev.neg (by omega) (Ev.now _)
/-- Two numbers in their only form are one if what they stand for is one. -/
theorem same_ev {E E' : Int} {x y : Rat} {n n' : Bool} {m m' : List Int} {e e' : Int} (hE0 : 0 ≤ E) (hE : E ≤ 1000000) (a : Nm E x n m e) (b : Nm E' y n' m' e') : Ev (fun K => dyad_Num_Same.f K n m e n' m' e') (decide (x = y)) := by
  obtain ⟨sa1, sa2, sa3⟩ := a.sizes hE0
  have key : x = y ↔ (n = n' ∧ e = e' ∧ m = m') := by
    constructor
    · intro h; subst h; obtain ⟨h1, h2, h3⟩ := a.unique b; exact ⟨h1, h3, h2⟩
    · rintro ⟨rfl, rfl, rfl⟩; rw [← a.val, b.val]
  unfold dyad_Num_Same.f
  by_cases h1 : n = n'
  · refine Ev.pos (by simpa using h1) ?_
    by_cases h2 : e = e'
    · refine Ev.pos h2 (Ev.bind (eq_ev (l' := m') (by omega)) ?_)
      have : decide (x = y) = decide (m = m') := by rw [decide_eq_decide, key]; simp [h1, h2]
      rw [this]
      exact Ev.now _
    · have : decide (x = y) = false := decide_eq_false fun h => h2 (key.mp h).2.1
      rw [this]
      exact Ev.neg h2 (Ev.now _)
  · have : decide (x = y) = false := decide_eq_false fun h => h1 (key.mp h).1
    rw [this]
    exact Ev.neg (by simpa using h1) (Ev.now _)
/-- Bounds that hold of the value. -/
theorem Nm.fit {E E' : Int} {x : Rat} {n : Bool} {m : List Int} {e k : Int} (h : Nm E x n m e) (hE : 0 ≤ E') (hk : x = (k : Rat) * pw (-E')) (h1 : x ≤ pw E') (h2 : -pw E' ≤ x) : Nm E' x n m e :=
  Nm.of hE h.can h.val hk h1 h2
theorem int_bounds {z : Int} {E : Int} (h0 : 0 ≤ E) (h1 : z ≤ p2 E) (h2 : -p2 E ≤ z) : (z : Rat) = ((z * p2 E : Int) : Rat) * pw (-E) ∧ (z : Rat) ≤ pw E ∧ -pw E ≤ (z : Rat) := by
  rw [pw_p2 h0]
  refine ⟨?_, by exact_mod_cast h1, by have : ((-p2 E : Int) : Rat) ≤ (z : Rat) := by exact_mod_cast h2
                                       push_cast at this; exact this⟩
  have := pw_neg_mul E
  rw [pw_p2 h0] at this
  push_cast
  grind
theorem Nm.int {E E' : Int} {z : Int} {n : Bool} {m : List Int} {e : Int} (h : Nm E (z : Rat) n m e) (hE : 0 ≤ E') (h1 : z ≤ p2 E') (h2 : -p2 E' ≤ z) : Nm E' (z : Rat) n m e :=
  let b := int_bounds hE h1 h2
  h.fit hE b.1 b.2.1 b.2.2
theorem nv_two {u : Int} (h0 : 0 ≤ u) (h1 : u < 18446744073709551616) : Dig [u % 4294967296, u / 4294967296 % 4294967296] ∧ nv [u % 4294967296, u / 4294967296 % 4294967296] = u := by
  refine ⟨Dig.mk (by omega) (by omega) (Dig.one (by omega) (by omega)), ?_⟩
  simp only [nv]
  omega
end Gim
