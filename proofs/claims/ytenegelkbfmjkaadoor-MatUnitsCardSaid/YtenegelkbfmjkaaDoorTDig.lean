/- Lists of digits below 2^32, the lowest first, as whole numbers. -/
import Derived.Test.YtenegelkbfmjkaaDoorT1
namespace Gim
set_option linter.unusedVariables false

/-- The whole number of a list of digits. -/
def nv : List Int → Int
  | [] => 0
  | d :: l => d + 4294967296 * nv l
def Dig (l : List Int) : Prop := ∀ x ∈ l, 0 ≤ x ∧ x < 4294967296
/-- 2^(32 n). -/
def bp (n : Nat) : Int := 4294967296 ^ n
theorem bp_zero : bp 0 = 1 := rfl
theorem bp_succ (n : Nat) : bp (n + 1) = 4294967296 * bp n := by unfold bp; rw [Int.pow_succ, Int.mul_comm]
theorem bp_pos (n : Nat) : 0 < bp n := by unfold bp; exact Int.pow_pos (by decide)
theorem bp_add (m n : Nat) : bp (m + n) = bp m * bp n := by unfold bp; exact Int.pow_add _ _ _
theorem bp_mono {m n : Nat} (h : m ≤ n) : bp m ≤ bp n := by
  obtain ⟨k, rfl⟩ : ∃ k, n = m + k := ⟨n - m, by omega⟩
  rw [bp_add]
  have h1 := bp_pos m
  have h2 := bp_pos k
  have := Int.mul_le_mul_of_nonneg_left (show 1 ≤ bp k by omega) (Int.le_of_lt h1)
  omega
theorem bp_pw (n : Nat) : ((bp n : Int) : Rat) = pw (32 * n) := by
  have : bp n = 2 ^ (32 * n) := by unfold bp; rw [Int.pow_mul]; rfl
  have e : ((32 * (n : Int)) : Int) = ((32 * n : Nat) : Int) := by omega
  rw [this, e, pw_nat]
theorem nv_nil : nv [] = 0 := rfl
theorem nv_cons (d : Int) (l : List Int) : nv (d :: l) = d + 4294967296 * nv l := rfl
theorem nv_append (l l' : List Int) : nv (l ++ l') = nv l + bp l.length * nv l' := by
  induction l with
  | nil => simp [nv, bp_zero]
  | cons d l ih =>
    rw [List.cons_append, nv_cons, nv_cons, ih, List.length_cons, bp_succ]
    grind
theorem nv_snoc (l : List Int) (d : Int) : nv (l ++ [d]) = nv l + bp l.length * d := by rw [nv_append]; simp [nv]
theorem nv_zeros (n : Nat) : nv (List.replicate n 0) = 0 := by
  induction n with
  | zero => rfl
  | succ n ih => rw [List.replicate_succ, nv_cons, ih]; rfl
theorem Dig.nil : Dig [] := by intro x hx; cases hx
theorem Dig.cons {d : Int} {l : List Int} (h : Dig (d :: l)) : (0 ≤ d ∧ d < 4294967296) ∧ Dig l := ⟨h d List.mem_cons_self, fun x hx => h x (List.mem_cons_of_mem _ hx)⟩
theorem Dig.mk {d : Int} {l : List Int} (h0 : 0 ≤ d) (h1 : d < 4294967296) (h : Dig l) : Dig (d :: l) := by
  intro x hx
  rcases List.mem_cons.mp hx with rfl | hx
  · exact ⟨h0, h1⟩
  · exact h x hx
theorem Dig.append {l l' : List Int} (h : Dig l) (h' : Dig l') : Dig (l ++ l') := by
  intro x hx
  rcases List.mem_append.mp hx with hx | hx
  · exact h x hx
  · exact h' x hx
theorem Dig.one {d : Int} (h0 : 0 ≤ d) (h1 : d < 4294967296) : Dig [d] := Dig.mk h0 h1 Dig.nil
theorem Dig.take {l : List Int} (h : Dig l) (n : Nat) : Dig (l.take n) := fun x hx => h x (List.mem_of_mem_take hx)
theorem Dig.drop {l : List Int} (h : Dig l) (n : Nat) : Dig (l.drop n) := fun x hx => h x (List.mem_of_mem_drop hx)
theorem Dig.zeros (n : Nat) : Dig (List.replicate n 0) := by
  intro x hx
  rw [(List.mem_replicate.mp hx).2]
  decide
theorem Dig.set {l : List Int} (h : Dig l) (i : Nat) {v : Int} (h0 : 0 ≤ v) (h1 : v < 4294967296) : Dig (l.set i v) := by
  intro x hx
  rcases List.mem_or_eq_of_mem_set hx with hx | hx
  · exact h x hx
  · rw [hx]; exact ⟨h0, h1⟩
theorem Dig.get {l : List Int} (h : Dig l) {i : Nat} (hi : i < l.length) : 0 ≤ l[i] ∧ l[i] < 4294967296 := h _ (List.getElem_mem hi)
theorem nv_bounds {l : List Int} (h : Dig l) : 0 ≤ nv l ∧ nv l < bp l.length := by
  induction l with
  | nil => exact ⟨Int.le_refl _, by rw [List.length_nil, bp_zero]; decide⟩
  | cons d l ih =>
    obtain ⟨⟨h0, h1⟩, h2⟩ := h.cons
    obtain ⟨a, b⟩ := ih h2
    rw [nv_cons, List.length_cons, bp_succ]
    omega
theorem nv_take_drop (l : List Int) (n : Nat) (h : n ≤ l.length) : nv l = nv (l.take n) + bp n * nv (l.drop n) := by
  have := nv_append (l.take n) (l.drop n)
  rwa [List.take_append_drop, List.length_take, Nat.min_eq_left h] at this
theorem nv_set {l : List Int} {i : Nat} (h : i < l.length) (v : Int) : nv (l.set i v) = nv l + bp i * (v - l[i]) := by
  induction l generalizing i with
  | nil => simp at h
  | cons d l ih =>
    cases i with
    | zero => simp [nv, bp_zero]; omega
    | succ i =>
      have hi : i < l.length := by simpa using h
      rw [List.set_cons_succ, nv_cons, nv_cons, ih hi, bp_succ]
      simp only [List.getElem_cons_succ]
      grind
theorem nv_take_succ {l : List Int} {i : Nat} (h : i < l.length) : nv (l.take (i + 1)) = nv (l.take i) + bp i * l[i] := by
  rw [List.take_succ_eq_append_getElem h, nv_snoc, List.length_take, Nat.min_eq_left (by omega)]
theorem nv_drop {l : List Int} {i : Nat} (h : i < l.length) : nv (l.drop i) = l[i] + 4294967296 * nv (l.drop (i + 1)) := by
  rw [List.drop_eq_getElem_cons h, nv_cons]
theorem nv_inj {l l' : List Int} (h : Dig l) (h' : Dig l') (hl : l.length = l'.length) (e : nv l = nv l') : l = l' := by
  induction l generalizing l' with
  | nil => cases l' with
    | nil => rfl
    | cons d l => simp at hl
  | cons d l ih =>
    cases l' with
    | nil => simp at hl
    | cons d' l' =>
      obtain ⟨⟨a, b⟩, c⟩ := h.cons
      obtain ⟨⟨a', b'⟩, c'⟩ := h'.cons
      rw [nv_cons, nv_cons] at e
      have e1 : d = d' := by omega
      subst e1
      rw [ih c c' (by simpa using hl) (by omega)]
/-- Nothing but the number: no nought on top. -/
def Top (l : List Int) : Prop := l ≠ [] → bp (l.length - 1) ≤ nv l
theorem Top.length_le {l : List Int} (h : Top l) {n : Nat} (hn : nv l < bp n) : l.length ≤ n := by
  by_cases he : l = []
  · subst he; simp
  · have h1 := h he
    refine Decidable.byContradiction fun hc => ?_
    have := bp_mono (show n ≤ l.length - 1 by omega)
    omega
theorem Top.inj {l l' : List Int} (h : Dig l) (h' : Dig l') (t : Top l) (t' : Top l') (e : nv l = nv l') : l = l' := by
  have b := nv_bounds h
  have b' := nv_bounds h'
  have h1 := t.length_le (n := l'.length) (by omega)
  have h2 := t'.length_le (n := l.length) (by omega)
  exact nv_inj h h' (by omega) e
theorem Top.of_last {l : List Int} (h : Dig l) (hl : 0 < l.length) (hz : l[l.length - 1]'(by omega) ≠ 0) : Top l := by
  intro _
  have h1 := nv_take_succ (l := l) (i := l.length - 1) (by omega)
  rw [show l.length - 1 + 1 = l.length by omega, List.take_length] at h1
  have h2 := (nv_bounds (h.take (l.length - 1))).1
  have h3 := h.get (i := l.length - 1) (by omega)
  have h4 := bp_pos (l.length - 1)
  have : bp (l.length - 1) * 1 ≤ bp (l.length - 1) * l[l.length - 1] := Int.mul_le_mul_of_nonneg_left (by omega) (by omega)
  omega
theorem nv_pos {l : List Int} (t : Top l) (he : l ≠ []) : 0 < nv l := by
  have := t he
  have := bp_pos (l.length - 1)
  omega
theorem nv_zero {l : List Int} (t : Top l) (h : nv l = 0) : l = [] := by
  refine Decidable.byContradiction fun hc => ?_
  have := nv_pos t hc
  omega
/-- A nought on top may go. -/
theorem nv_last_zero {l : List Int} (hl : 0 < l.length) (hz : l[l.length - 1]'(by omega) = 0) : nv (l.take (l.length - 1)) = nv l := by
  have h1 := nv_take_succ (l := l) (i := l.length - 1) (by omega)
  rw [show l.length - 1 + 1 = l.length by omega, List.take_length, hz] at h1
  omega
theorem bp_even (n : Nat) (h : 0 < n) : bp n % 2 = 0 := by
  obtain ⟨k, rfl⟩ : ∃ k, n = k + 1 := ⟨n - 1, by omega⟩
  rw [bp_succ]; omega

/-- A number's digits, divided by P, where P times Q is 2^32. -/
def dn (P Q : Int) : List Int → List Int
  | [] => []
  | a :: l => (a / P + (l.headD 0 % P) * Q) :: dn P Q l
theorem dn_length (P Q : Int) (l : List Int) : (dn P Q l).length = l.length := by
  induction l with
  | nil => rfl
  | cons a l ih => simp [dn, ih]
theorem dn_nv {P Q : Int} (hP : 0 < P) (hPQ : P * Q = 4294967296) (l : List Int) : nv (dn P Q l) * P + l.headD 0 % P = nv l := by
  induction l with
  | nil => simp [dn, nv]
  | cons a l ih =>
    have h1 := Int.emod_add_mul_ediv a P
    simp only [dn, nv_cons, List.headD_cons]
    rw [← ih]
    grind
theorem dn_get {P Q : Int} {l : List Int} {i : Nat} (h : i < l.length) : (dn P Q l)[i]'(by rw [dn_length]; exact h) = l[i] / P + (if h2 : i + 1 < l.length then l[i + 1] % P else 0) * Q := by
  induction l generalizing i with
  | nil => simp at h
  | cons a l ih =>
    cases i with
    | zero =>
      cases l with
      | nil => simp [dn]
      | cons b l => simp [dn]
    | succ i =>
      have hi : i < l.length := by simpa using h
      simp only [dn, List.getElem_cons_succ, ih hi]
      by_cases h2 : i + 1 < l.length
      · rw [dif_pos h2, dif_pos (by simpa using h2)]
      · rw [dif_neg h2, dif_neg (by simpa using h2)]
theorem dn_dig {P Q : Int} (hP : 0 < P) (hQ : 0 < Q) (hPQ : P * Q = 4294967296) {l : List Int} (h : Dig l) : Dig (dn P Q l) := by
  induction l with
  | nil => exact Dig.nil
  | cons a l ih =>
    obtain ⟨⟨h0, h1⟩, h2⟩ := h.cons
    have d0 := Int.ediv_nonneg h0 (Int.le_of_lt hP)
    have d1 : a / P < Q := Int.ediv_lt_of_lt_mul hP (by rw [Int.mul_comm]; omega)
    have r0 := Int.emod_nonneg (l.headD 0) (show P ≠ 0 by omega)
    have r1 := Int.emod_lt_of_pos (l.headD 0) hP
    have m0 := Int.mul_nonneg r0 (Int.le_of_lt hQ)
    have m1 : (l.headD 0 % P) * Q ≤ (P - 1) * Q := Int.mul_le_mul_of_nonneg_right (by omega) (Int.le_of_lt hQ)
    have m2 : (P - 1) * Q = 4294967296 - Q := by grind
    exact Dig.mk (by omega) (by omega) (ih h2)
/-- Of a list the first i stand, the others are noughts. -/
def stp (L : List Int) (i : Nat) : List Int := L.take i ++ List.replicate (L.length - i) 0
theorem stp_length {L : List Int} {i : Nat} (h : i ≤ L.length) : (stp L i).length = L.length := by simp [stp]; omega
theorem stp_zero (L : List Int) : stp L 0 = List.replicate L.length 0 := by simp [stp]
theorem stp_full (L : List Int) : stp L L.length = L := by simp [stp]
theorem stp_set {L : List Int} {i : Nat} (h : i < L.length) : (stp L i).set i L[i] = stp L (i + 1) := by
  apply List.ext_getElem
  · rw [List.length_set, stp_length (by omega), stp_length (by omega)]
  · intro x h1 h2
    have hx : x < L.length := by rw [stp_length (by omega)] at h2; exact h2
    have get : ∀ j, (hj : j ≤ L.length) → ∀ hh : x < (stp L j).length, (stp L j)[x] = if x < j then L[x] else 0 := by
      intro j hj hh
      simp only [stp]
      by_cases c : x < j
      · rw [if_pos c, List.getElem_append_left (by simp; omega)]
        simp
      · rw [if_neg c, List.getElem_append_right (by simp; omega)]
        simp
    rw [List.getElem_set, get (i + 1) (by omega) h2]
    by_cases e : i = x
    · subst e
      rw [if_pos rfl, if_pos (by omega)]
    · rw [if_neg e, get i (by omega) _]
      by_cases c : x < i
      · rw [if_pos c, if_pos (by omega)]
      · rw [if_neg c, if_neg (by omega)]
end Gim
