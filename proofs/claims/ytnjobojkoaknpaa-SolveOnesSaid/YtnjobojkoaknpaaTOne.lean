/- The identity: ones on the diagonal. -/
import Derived.Test.YtnjobojkoaknpaaTMat
import Derived.Test.YtnjobojkoaknpaaTNanB
import Derived.Test.YtnjobojkoaknpaaFx15
namespace Gim
open Go Go.RowKit Go.Proofs.YtnjobojkoaknpaaW.PrintWords Go.Proofs.YtnjobojkoaknpaaW.PrintLast Go.Proofs.YtnjobojkoaknpaaW.PrintMore Go.Proofs.Ytnjobojkoaknpaa.F
set_option linter.unusedVariables false

def ONE : Int := 4607182418800017408
theorem one_fin : U ONE ∧ fin ONE ∧ val ONE = 1 := by
  refine ⟨⟨by decide, by decide⟩, by unfold fin mag ONE INF; decide, ?_⟩
  have e1 : Gim.neg ONE = false := by decide
  have e2 : mant (mag ONE) = 4503599627370496 := by decide
  have e3 : expo (mag ONE) = -52 := by decide
  unfold val vm
  rw [e1, e2, e3]
  have h := pw_neg_mul 52
  have h2 : pw 52 = ((4503599627370496 : Int) : Rat) := by rw [pw_p2 (by decide)]; rfl
  rw [h2, Rat.mul_comm] at h
  exact h
theorem zero_fin : U 0 ∧ fin 0 ∧ val 0 = 0 := ⟨⟨by decide, by decide⟩, by unfold fin mag INF; decide, val_zero_iff.mpr (by decide)⟩
theorem gat_get {R C x : Nat} {g : Nat → Nat → Int} (h : x < (gat R C g).length) : (gat R C g)[x] = g (x / C) (x % C) := by simp [gat]
theorem gat_const (R C : Nat) (v : Int) : List.replicate (R * C) v = gat R C (fun _ _ => v) := by
  apply List.ext_getElem
  · rw [List.length_replicate, gat_length]
  · intro x h1 h2
    rw [gat_get, List.getElem_replicate]
theorem set_gat {R C i k : Nat} {g : Nat → Nat → Int} (hi : i < R) (hk : k < C) (v : Int) : set4 R C C (gat R C g) i k v = gat R C (fun x y => if x = i ∧ y = k then v else g x y) := by
  unfold set4
  rw [if_pos (inB_dense gat_length hi hk)]
  have hn : ((i : Int) * (C : Int) + (k : Int)).toNat = i * C + k := by
    have : (i : Int) * (C : Int) + (k : Int) = ((i * C + k : Nat) : Int) := by push_cast; rfl
    rw [this, Int.toNat_natCast]
  rw [hn]
  apply List.ext_getElem
  · rw [List.length_set, gat_length, gat_length]
  · intro x h1 h2
    rw [gat_get, List.getElem_set]
    by_cases c : i * C + k = x
    · subst c
      rw [if_pos rfl, place_div hk, place_mod hk, if_pos ⟨rfl, rfl⟩]
    · rw [if_neg c, gat_get, if_neg]
      rintro ⟨e1, e2⟩
      have := Nat.div_add_mod x C
      rw [e1, e2, Nat.mul_comm] at this
      exact c this
/-- Ones on the first n places of the diagonal. -/
def dia (n : Nat) (x y : Nat) : Int := if x = y ∧ x < n then ONE else 0
theorem one_l0 {R : Nat} (hR : R ≤ 100) : ∀ t i : Nat, R - i = t → i ≤ R → Ev (fun K => mat_One.l0 K R i R R R (gat R R (dia i))) ((R : Int), (R : Int), (R : Int), gat R R (dia R)) := by
  intro t
  induction t with
  | zero =>
    intro i h1 h2
    obtain rfl : i = R := by omega
    refine Ev.succ ?_
    simp only [mat_One.l0]
    exact Ev.neg (by omega) (Ev.now _)
  | succ t ih =>
    intro i h1 h2
    refine Ev.succ ?_
    simp only [mat_One.l0]
    rw [w64 (x := (i : Int) + 1) (by omega) (by omega)]
    refine Ev.pos (by omega) (Ev.call (set_eq ⟨by omega, by omega, by omega⟩ _ _ _ _) ?_)
    have e : set4 R R R (gat R R (dia i)) i i 4607182418800017408 = gat R R (dia (i + 1)) := by
      rw [set_gat (by omega) (by omega)]
      apply gat_congr
      intro x y hx hy
      unfold dia ONE
      by_cases c : x = i ∧ y = i
      · rw [if_pos c, if_pos ⟨by omega, by omega⟩]
      · rw [if_neg c]
        by_cases c2 : x = y ∧ x < i
        · rw [if_pos c2, if_pos ⟨c2.1, by omega⟩]
        · rw [if_neg c2, if_neg (by omega)]
    rw [e]
    exact ih (i + 1) (by omega) (by omega)
theorem one_ev {R : Nat} (hR : R ≤ 100) : Ev (fun K => mat_One.f K R) ((R : Int), (R : Int), (R : Int), gat R R (dia R)) := by
  unfold mat_One.f
  refine Ev.call (new_eq (by omega) (by omega)) ?_
  have h := one_l0 hR R 0 (by omega) (by omega)
  have e : gat R R (dia 0) = List.replicate (R * R) 0 := by
    rw [gat_const]
    apply gat_congr
    intro x y _ _
    unfold dia
    rw [if_neg (by omega)]
  rw [e] at h
  exact h
end Gim
