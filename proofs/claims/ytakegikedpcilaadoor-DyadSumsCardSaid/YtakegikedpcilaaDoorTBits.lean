/- Whole numbers as lists of bits, the lowest first. -/
import Derived.Test.YtakegikedpcilaaDoorTWide
namespace Gim
open Go Go.RowKit Go.Proofs.YtakegikedpcilaaDoorW.PrintWords Go.Proofs.YtakegikedpcilaaDoorW.PrintLast Go.Proofs.YtakegikedpcilaaDoorW.PrintMore
set_option linter.unusedVariables false

def bv : List Int → Int
  | [] => 0
  | x :: xs => x + 2 * bv xs
theorem bv_nil : bv [] = 0 := rfl
theorem bv_cons (x : Int) (l : List Int) : bv (x :: l) = x + 2 * bv l := rfl
def Bits (l : List Int) : Prop := ∀ x ∈ l, x = 0 ∨ x = 1
theorem Bits.nil : Bits [] := fun x h => by cases h
theorem Bits.cons {x : Int} {l : List Int} (h : x = 0 ∨ x = 1) (hl : Bits l) : Bits (x :: l) := fun y hy => by
  rcases List.mem_cons.mp hy with rfl | hy
  · exact h
  · exact hl y hy
theorem Bits.tail {x : Int} {l : List Int} (h : Bits (x :: l)) : Bits l := fun y hy => h y (List.mem_cons_of_mem _ hy)
theorem Bits.head {x : Int} {l : List Int} (h : Bits (x :: l)) : x = 0 ∨ x = 1 := h x List.mem_cons_self
theorem Bits.append {l m : List Int} (hl : Bits l) (hm : Bits m) : Bits (l ++ m) := fun x hx => by
  rcases List.mem_append.mp hx with h | h
  · exact hl x h
  · exact hm x h
theorem Bits.take {l : List Int} (h : Bits l) (n : Nat) : Bits (l.take n) := fun x hx => h x (List.mem_of_mem_take hx)
theorem Bits.drop {l : List Int} (h : Bits l) (n : Nat) : Bits (l.drop n) := fun x hx => h x (List.mem_of_mem_drop hx)
theorem Bits.at_ {l : List Int} (h : Bits l) {i : Int} : rd l i = 0 ∨ rd l i = 1 := by
  unfold rd
  rw [List.getD_eq_getElem?_getD]
  cases hc : l[i.toNat]? with
  | none => exact .inl rfl
  | some x => exact h x (List.mem_of_getElem? hc)
theorem Bits.zeros (n : Nat) : Bits (List.replicate n 0) := fun x hx => .inl (List.eq_of_mem_replicate hx)

theorem bv_nonneg {l : List Int} (h : Bits l) : 0 ≤ bv l := by
  induction l with
  | nil => exact Int.le_refl _
  | cons x l ih => have := ih h.tail; have := h.head; rw [bv_cons]; omega
theorem bv_lt {l : List Int} (h : Bits l) : bv l < 2 ^ l.length := by
  induction l with
  | nil => decide
  | cons x l ih =>
    have := ih h.tail
    have := h.head
    rw [bv_cons, List.length_cons, Int.pow_succ]
    omega
theorem bv_append (l m : List Int) : bv (l ++ m) = bv l + 2 ^ l.length * bv m := by
  induction l with
  | nil => simp [bv_nil]
  | cons x l ih =>
    rw [List.cons_append, bv_cons, bv_cons, ih, List.length_cons, Int.pow_succ]
    grind
theorem bv_zeros (n : Nat) : bv (List.replicate n 0) = 0 := by
  induction n with
  | zero => rfl
  | succ n ih => rw [List.replicate_succ, bv_cons, ih]; rfl
theorem bv_single (x : Int) : bv [x] = x := by rw [bv_cons, bv_nil]; omega
theorem bv_take_drop (l : List Int) (n : Nat) (h : n ≤ l.length) : bv l = bv (l.take n) + 2 ^ n * bv (l.drop n) := by
  have := bv_append (l.take n) (l.drop n)
  rw [List.take_append_drop, List.length_take, Nat.min_eq_left h] at this
  exact this
theorem bv_take_succ {l : List Int} {n : Nat} (h : n < l.length) : bv (l.take (n + 1)) = bv (l.take n) + 2 ^ n * rd l n := by
  have e : l.take (n + 1) = l.take n ++ [l[n]] := by rw [List.take_succ_eq_append_getElem h]
  have e2 : rd l n = l[n] := by unfold rd; simp [List.getD_eq_getElem?_getD, h]
  rw [e, bv_append, bv_single, List.length_take, Nat.min_eq_left (by omega), e2]
theorem drop_cons {l : List Int} {n : Nat} (h : n < l.length) : l.drop n = rd l n :: l.drop (n + 1) := by
  have e2 : rd l n = l[n] := by unfold rd; simp [List.getD_eq_getElem?_getD, h]
  rw [e2, List.drop_eq_getElem_cons h]
theorem bv_drop {l : List Int} {n : Nat} (h : n < l.length) : bv (l.drop n) = rd l n + 2 * bv (l.drop (n + 1)) := by
  rw [drop_cons h]; rfl

/-- The list of a number, without noughts at the end. -/
def nb (n : Nat) : List Int := if h : n = 0 then [] else ((n % 2 : Nat) : Int) :: nb (n / 2)
termination_by n
def bl (v : Int) : List Int := nb v.toNat
theorem nb_zero : nb 0 = [] := by unfold nb; rfl
theorem nb_pos {n : Nat} (h : n ≠ 0) : nb n = ((n % 2 : Nat) : Int) :: nb (n / 2) := by rw [nb]; rw [dif_neg h]
theorem nb_bits (n : Nat) : Bits (nb n) := by
  induction n using Nat.strongRecOn with
  | _ n ih =>
    by_cases h : n = 0
    · subst h; rw [nb_zero]; exact Bits.nil
    · rw [nb_pos h]; exact Bits.cons (by omega) (ih _ (by omega))
theorem bv_nb (n : Nat) : bv (nb n) = n := by
  induction n using Nat.strongRecOn with
  | _ n ih =>
    by_cases h : n = 0
    · subst h; rw [nb_zero]; rfl
    · rw [nb_pos h, bv_cons, ih _ (by omega)]; omega
theorem bl_bits (v : Int) : Bits (bl v) := nb_bits _
theorem bv_bl {v : Int} (h : 0 ≤ v) : bv (bl v) = v := by unfold bl; rw [bv_nb]; omega
theorem bl_zero : bl 0 = [] := nb_zero
theorem bl_cons {v : Int} (h : 0 < v) : bl v = v % 2 :: bl (v / 2) := by
  unfold bl
  rw [nb_pos (by omega)]
  congr 1
  · omega
  · congr 1; omega
theorem bl_length {v : Int} (h : 0 ≤ v) : ((bl v).length : Int) = blen v := by
  obtain ⟨n, rfl⟩ := Int.eq_ofNat_of_zero_le h
  clear h
  induction n using Nat.strongRecOn with
  | _ n ih =>
    by_cases hz : n = 0
    · subst hz; rw [show ((0 : Nat) : Int) = 0 from rfl, bl_zero, blen_zero]; rfl
    · rw [bl_cons (by omega)]
      have e : (n : Int) / 2 = ((n / 2 : Nat) : Int) := by omega
      rw [e, List.length_cons]
      have := ih (n / 2) (by omega)
      push_cast
      push_cast at this
      rw [this]
      by_cases h1 : n = 1
      · subst h1
        rw [show ((1 : Nat) : Int) / 2 = 0 from by decide, blen_zero]
        have : blen 1 = 1 := blen_unique (by decide) (by decide) (by decide)
        exact this.symm
      · have hs := blen_shift (x := (n : Int)) (s := 1) (by decide) (by rw [p2_1]; omega)
        rw [p2_1] at hs
        omega
theorem bl_unique {l : List Int} (h : Bits l) (ht : l = [] ∨ rd l (l.length - 1) = 1) : l = bl (bv l) := by
  induction l with
  | nil => exact bl_zero.symm
  | cons x l ih =>
    have hx := h.head
    have ht' : rd (x :: l) ((x :: l).length - 1) = 1 := by rcases ht with ht | ht; exact absurd ht (by simp); exact ht
    have hl : l = [] ∨ rd l (l.length - 1) = 1 := by
      cases l with
      | nil => exact .inl rfl
      | cons y m =>
        refine .inr ?_
        have e : ((x :: y :: m).length : Int) - 1 = ((y :: m).length - 1 : Int) + 1 := by simp
        rw [e] at ht'
        have e3 : ((y :: m).length : Int) - 1 = (m.length : Int) := by simp
        unfold rd at ht' ⊢
        rw [e3] at ht' ⊢
        rw [show ((m.length : Int) + 1).toNat = m.length + 1 from by omega] at ht'
        rw [show ((m.length : Int)).toNat = m.length from by omega]
        exact ht'
    have e := ih h.tail hl
    have n0 := bv_nonneg h.tail
    have hpos : 0 < bv (x :: l) := by
      rcases hl with hl | hl
      · subst hl
        have : x = 1 := ht'
        subst this; rw [bv_single]; decide
      · have : l ≠ [] := by rintro rfl; simp [rd] at hl
        have : bv l ≠ 0 := by
          intro hz
          rw [hz, bl_zero] at e
          exact this e
        rw [bv_cons]; omega
    rw [bl_cons hpos, bv_cons]
    have e1 : (x + 2 * bv l) % 2 = x := by omega
    have e2 : (x + 2 * bv l) / 2 = bv l := by omega
    rw [e1, e2, ← e]
end Gim
