/- Exact numbers: difference, sign, comparison. -/
import Derived.Test.YtenegelkbfmjkaaDoorTDyE
import Derived.Test.YtenegelkbfmjkaaDoorFx12
namespace Gim
open Go Go.RowKit Go.Proofs.YtenegelkbfmjkaaDoorW.PrintWords Go.Proofs.YtenegelkbfmjkaaDoorW.PrintLast Go.Proofs.YtenegelkbfmjkaaDoorW.PrintMore Go.Proofs.YtenegelkbfmjkaaDoor.F
set_option linter.unusedVariables false

def rsgn (x : Rat) : Int := if x = 0 then 0 else if x < 0 then -1 else 1
theorem Nm.zero {E : Int} (hE : 0 ≤ E) : Nm E 0 false [] 0 :=
  ⟨⟨Dig.nil, fun h => absurd rfl h, .inl ⟨rfl, rfl, rfl⟩⟩, by unfold nval; simp [nv], by omega, by simp [nv]; exact Rat.le_of_lt (pw_pos E)⟩
theorem num_sub_ev {E : Int} {x y : Rat} {n n' : Bool} {m m' : List Int} {e e' : Int} (hE0 : 0 ≤ E) (hE : E ≤ 1000000) (a : Nm E x n m e) (b : Nm E y n' m' e') :
    ∃ r l f, Ev (fun K => dyad_Num_Sub.f K n m e n' m' e') (r, l, f) ∧ Nm (E + 1) (x - y) r l f := by
  obtain ⟨q, e1, nm⟩ := neg_ev b
  obtain ⟨r, l, f, ev, nm2⟩ := num_add_ev hE0 hE a nm
  refine ⟨r, l, f, ?_, by rw [Rat.sub_eq_add_neg]; exact nm2⟩
  unfold dyad_Num_Sub.f
  exact Ev.call e1 (Ev.bind ev (Ev.now _))
theorem sign_eq {E : Int} {x : Rat} {n : Bool} {m : List Int} {e : Int} (a : Nm E x n m e) : dyad_Num_Sign.f n m e = some (rsgn x) := by
  have hx := a.val
  rw [nval_sgd] at hx
  unfold dyad_Num_Sign.f rsgn
  by_cases h : m = []
  · have h0 : x = 0 := by rw [← hx, h]; unfold sgd; cases n <;> simp [nv]
    rw [if_pos (by rw [h]; rfl), if_pos h0]
  · have hp := nv_pos a.can.2.1 h
    have hl : ¬ ((m.length : Int) = 0) := by have := List.length_pos_iff.mpr h; omega
    have h0 : x ≠ 0 := by
      intro h0
      rw [h0] at hx
      have := int_pw_zero.mp hx
      unfold sgd at this; split at this <;> omega
    rw [if_neg hl, if_neg h0]
    have hs : x < 0 ↔ n = true := by
      rw [← hx, int_pw_neg]
      unfold sgd; cases n <;> simp <;> omega
    cases n
    · rw [if_neg (by decide), if_neg (by rw [hs]; decide)]
    · rw [if_pos rfl, if_pos (hs.mpr rfl)]
theorem num_cmp_ev {E : Int} {x y : Rat} {n n' : Bool} {m m' : List Int} {e e' : Int} (hE0 : 0 ≤ E) (hE : E ≤ 1000000) (a : Nm E x n m e) (b : Nm E y n' m' e') :
    Ev (fun K => dyad_Num_Cmp.f K n m e n' m' e') (rsgn (x - y)) := by
  obtain ⟨r, l, f, ev, nm⟩ := num_sub_ev hE0 hE a b
  unfold dyad_Num_Cmp.f
  exact Ev.bind ev (Ev.call (sign_eq nm) (Ev.now _))
theorem abs_ev {E : Int} {x : Rat} {n : Bool} {m : List Int} {e : Int} (a : Nm E x n m e) : dyad_Num_Abs.f n m e = some (false, m, e) ∧ Nm E (rabs x) false m e := by
  refine ⟨rfl, ?_, ?_, a.lo, a.hi⟩
  · refine ⟨a.can.1, a.can.2.1, ?_⟩
    rcases a.can.2.2 with ⟨h1, h2, h3⟩ | h
    · exact .inl ⟨h1, rfl, h3⟩
    · exact .inr h
  · have hx := a.val
    rw [nval_sgd] at hx
    rw [← hx, rabs_sgd n (nv_bounds a.can.1).1]
    unfold nval; simp
end Gim
