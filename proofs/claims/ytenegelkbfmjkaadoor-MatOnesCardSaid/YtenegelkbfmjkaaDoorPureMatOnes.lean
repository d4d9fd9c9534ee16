/- MatOnes: zeros and ones, of any sizes; for every input. -/
import Derived.Test.YtenegelkbfmjkaaDoorTSqr
import Derived.Test.YtenegelkbfmjkaaDoorTCheck
import Derived.Test.YtenegelkbfmjkaaDoorTDyI
import Derived.Test.YtenegelkbfmjkaaDoorFx5
import Derived.Test.YtenegelkbfmjkaaDoorFx10
import Derived.Test.YtenegelkbfmjkaaDoorFx11
namespace Go.Proofs.YtenegelkbfmjkaaDoor.Pure
open Gim Go Go.RowKit Go.Proofs.YtenegelkbfmjkaaDoor.F Go.Proofs.YtenegelkbfmjkaaDoorW.PrintWords Go.Proofs.YtenegelkbfmjkaaDoorW.PrintLast
set_option linter.unusedVariables false
set_option linter.unusedSectionVars false

theorem head_ok : gimballaw09_head.f 200 = some true := by decide +kernel
theorem head_ev : Ev (fun k => gimballaw09_head.f k) true := Ev.of (fun k => gimballaw09_head.mono k) head_ok
theorem and31 (x : Int) : Go.bits .and .i64 x 31 = x % 32 := i64_and 5 (by decide) x
def ONE : Int := 4607182418800017408
theorem one_fin : U ONE ∧ fin ONE ∧ val ONE = 1 := by
  refine ⟨⟨by decide, by decide⟩, by unfold fin mag ONE INF; decide, ?_⟩
  have e1 : Gim.neg ONE = false := by decide
  have e2 : mant (mag ONE) = 4503599627370496 := by decide
  have e3 : expo (mag ONE) = -52 := by decide
  unfold val vm
  rw [e1, e2, e3]
  have h := pw_neg_mul 52
  have h2 : pw 52 = ((4503599627370496 : Int) : Rat) := by rw [pw_p2 (by decide)]; rfl
  rw [h2, Rat.mul_comm] at h
  exact h
theorem zero_fin : U 0 ∧ fin 0 ∧ val 0 = 0 := ⟨⟨by decide, by decide⟩, by unfold fin mag INF; decide, val_zero_iff.mpr (by decide)⟩
theorem gat_get {R C x : Nat} {g : Nat → Nat → Int} (h : x < (gat R C g).length) : (gat R C g)[x] = g (x / C) (x % C) := by simp [gat]
theorem gat_const (R C : Nat) (v : Int) : List.replicate (R * C) v = gat R C (fun _ _ => v) := by
  apply List.ext_getElem
  · rw [List.length_replicate, gat_length]
  · intro x h1 h2
    rw [gat_get, List.getElem_replicate]
theorem set_gat {R C i k : Nat} {g : Nat → Nat → Int} (hi : i < R) (hk : k < C) (v : Int) : set4 R C C (gat R C g) i k v = gat R C (fun x y => if x = i ∧ y = k then v else g x y) := by
  unfold set4
  rw [if_pos (inB_dense gat_length hi hk)]
  have hn : ((i : Int) * (C : Int) + (k : Int)).toNat = i * C + k := by
    have : (i : Int) * (C : Int) + (k : Int) = ((i * C + k : Nat) : Int) := by push_cast; rfl
    rw [this, Int.toNat_natCast]
  rw [hn]
  apply List.ext_getElem
  · rw [List.length_set, gat_length, gat_length]
  · intro x h1 h2
    rw [gat_get, List.getElem_set]
    by_cases c : i * C + k = x
    · subst c
      rw [if_pos rfl, place_div hk, place_mod hk, if_pos ⟨rfl, rfl⟩]
    · rw [if_neg c, gat_get, if_neg]
      rintro ⟨e1, e2⟩
      have := Nat.div_add_mod x C
      rw [e1, e2, Nat.mul_comm] at this
      exact c this
/-- Ones on the first n places of the diagonal. -/
def dia (n : Nat) (x y : Nat) : Int := if x = y ∧ x < n then ONE else 0
theorem one_l0 {R : Nat} (hR : R ≤ 100) : ∀ t i : Nat, R - i = t → i ≤ R → Ev (fun K => mat_One.l0 K R i R R R (gat R R (dia i))) ((R : Int), (R : Int), (R : Int), gat R R (dia R)) := by
  intro t
  induction t with
  | zero =>
    intro i h1 h2
    obtain rfl : i = R := by omega
    refine Ev.succ ?_
    simp only [mat_One.l0]
    exact Ev.neg (by omega) (Ev.now _)
  | succ t ih =>
    intro i h1 h2
    refine Ev.succ ?_
    simp only [mat_One.l0]
    rw [w64 (x := (i : Int) + 1) (by omega) (by omega)]
    refine Ev.pos (by omega) (Ev.call (set_eq ⟨by omega, by omega, by omega⟩ _ _ _ _) ?_)
    have e : set4 R R R (gat R R (dia i)) i i 4607182418800017408 = gat R R (dia (i + 1)) := by
      rw [set_gat (by omega) (by omega)]
      apply gat_congr
      intro x y hx hy
      unfold dia ONE
      by_cases c : x = i ∧ y = i
      · rw [if_pos c, if_pos ⟨by omega, by omega⟩]
      · rw [if_neg c]
        by_cases c2 : x = y ∧ x < i
        · rw [if_pos c2, if_pos ⟨c2.1, by omega⟩]
        · rw [if_neg c2, if_neg (by omega)]
    rw [e]
    exact ih (i + 1) (by omega) (by omega)
theorem one_ev {R : Nat} (hR : R ≤ 100) : Ev (fun K => mat_One.f K R) ((R : Int), (R : Int), (R : Int), gat R R (dia R)) := by
  unfold mat_One.f
  refine Ev.call (new_eq (by omega) (by omega)) ?_
  have h := one_l0 hR R 0 (by omega) (by omega)
  have e : gat R R (dia 0) = List.replicate (R * R) 0 := by
    rw [gat_const]
    apply gat_congr
    intro x y _ _
    unfold dia
    rw [if_neg (by omega)]
  rw [e] at h
  exact h
/-- The numbers of the ones. -/
def dq (x y : Nat) : Rat := if x = y then 1 else 0
theorem rs_dq (i n : Nat) : rs (dq i) n = if i < n then 1 else 0 := by
  induction n with
  | zero => rfl
  | succ n ih =>
    rw [rs_succ, ih]
    unfold dq
    by_cases h : i = n
    · rw [if_pos h, if_neg (by omega), if_pos (by omega)]; grind
    · rw [if_neg h]
      by_cases c : i < n
      · rw [if_pos c, if_pos (by omega)]; grind
      · rw [if_neg c, if_neg (by omega)]; grind
theorem tt_dq {R : Nat} : ∀ n, n ≤ R → tt dq R n = (n : Rat) := by
  intro n
  induction n with
  | zero => intro _; rfl
  | succ n ih =>
    intro h
    rw [tt_succ, ih (by omega), rs_dq, if_pos (by omega)]
    push_cast; rfl
theorem fin_ev {c : Bool} {g : Nat → Option Bool} (h : Ev g c) (hc : c = true) : Ev g true := hc ▸ h
theorem same_true {E E' : Int} {x y : Rat} {n n' : Bool} {m m' : List Int} {e e' : Int} (hE0 : 0 ≤ E) (hE : E ≤ 1000000) (a : Nm E x n m e) (b : Nm E' y n' m' e') (h : x = y) : Ev (fun K => dyad_Num_Same.f K n m e n' m' e') true :=
  fin_ev (Gim.same_ev hE0 hE a b) (decide_eq_true h)

section
variable {R C : Nat} (hR : R ≤ 31) (hC : C ≤ 31)
include hR hC
theorem l2_ev {i : Nat} (hi : i < R) {b : Bool} (next : Ev (fun K => gimballaw09_MatOnes.l1 K R ((i + 1 : Nat) : Int) R C C (List.replicate (R * C) 0) R R R (gat R R (dia R))) b) :
    ∀ t k : Nat, R - k = t → k ≤ R → Ev (fun K => gimballaw09_MatOnes.l2 K R i k R C C (List.replicate (R * C) 0) R R R (gat R R (dia R))) b := by
  intro t
  induction t with
  | zero =>
    intro k h1 h2
    refine Ev.succ ?_
    simp only [gimballaw09_MatOnes.l2]
    rw [w64 (x := (i : Int) + 1) (by omega) (by omega)]
    exact Ev.neg (by omega) next
  | succ t ih =>
    intro k h1 h2
    have hk : k < R := by omega
    refine Ev.succ ?_
    simp only [gimballaw09_MatOnes.l2]
    rw [w64 (x := (k : Int) + 1) (by omega) (by omega)]
    have ha : at4 R R R (gat R R (dia R)) i k = if i = k then ONE else 0 := by
      rw [at_gat hi hk]
      unfold dia
      by_cases c : i = k
      · rw [if_pos ⟨c, hi⟩, if_pos c]
      · rw [if_neg (fun h => c h.1), if_neg c]
    have k1 := ih (k + 1) (by omega) (by omega)
    refine Ev.pos (by omega) ?_
    by_cases c : i = k
    · refine Ev.pos (by omega) (Ev.call (at_eq ⟨by omega, by omega, by omega⟩ _ _ _) (Ev.pos ?_ k1))
      rw [ha, if_pos c]; rfl
    · refine Ev.neg (by omega) (Ev.call (at_eq ⟨by omega, by omega, by omega⟩ _ _ _) (Ev.pos ?_ k1))
      rw [ha, if_neg c]
theorem l1_ev : ∀ t i : Nat, R - i = t → i ≤ R → Ev (fun K => gimballaw09_MatOnes.l1 K R i R C C (List.replicate (R * C) 0) R R R (gat R R (dia R))) true := by
  intro t
  induction t with
  | zero =>
    intro i h1 h2
    refine Ev.succ ?_
    simp only [gimballaw09_MatOnes.l1]
    obtain ⟨E, hE⟩ : ∃ E : Int, E = 1074 := ⟨_, rfl⟩
    obtain ⟨r1, l1, f1, e1, n1⟩ := of_ev hE zero_fin.1 zero_fin.2.1
    rw [zero_fin.2.2] at n1
    have hRR : R * R ≤ 31 * 31 := Nat.mul_le_mul hR hR
    have hRC : R * C ≤ 31 * 31 := Nat.mul_le_mul hR hC
    obtain ⟨r2, l2, f2, e2, n2⟩ := square_ev (R := R) (C := R) (s := R) (d := gat R R (dia R)) (by omega) (by omega) (by omega) (gat_U (fun i k => by unfold dia; split; exact one_fin.1; exact zero_fin.1)) hE
    rw [tt_congr (g' := dq) (fun i k hi hk => by
      rw [at_gat hi hk]
      unfold dia dq
      by_cases c : i = k
      · rw [if_pos ⟨c, hi⟩, if_pos c, dv_fin one_fin.2.1]; exact one_fin.2.2
      · rw [if_neg (fun h => c h.1), if_neg c, dv_fin zero_fin.2.1]; exact zero_fin.2.2)] at n2
    obtain ⟨r3, l3, f3, e3, n3⟩ := int_ev (z := (R : Int)) (by omega) (by omega)
    obtain ⟨r4, l4, f4, e4, n4⟩ := square_ev (R := R) (C := C) (s := C) (d := List.replicate (R * C) 0) (by omega) (by omega) (by omega) (fun x hx => by rw [(List.mem_replicate.mp hx).2]; exact zero_fin.1) hE
    rw [tt_congr (g' := fun _ _ => 0) (fun i k hi hk => by
      rw [gat_const, at_gat hi hk, dv_fin zero_fin.2.1]; exact zero_fin.2.2)] at n4
    rw [tt_dq R (Nat.le_refl R)] at n2
    rw [tt_zero] at n4
    refine Ev.neg (by omega) (Ev.bind e1 (Ev.bind e2 (Ev.bind e3 (Ev.bind (same_true (by omega) (by omega) n2 n3 (by first | exact (Rat.intCast_natCast R).symm | rfl | push_cast)) (Ev.pos rfl (Ev.bind e4 (Ev.bind (same_true (by omega) (by omega) n4 n1 rfl) (Ev.now _))))))))
  | succ t ih =>
    intro i h1 h2
    refine Ev.succ ?_
    simp only [gimballaw09_MatOnes.l1]
    exact Ev.pos (by omega) (l2_ev hR hC (by omega) (ih (i + 1) (by omega) (by omega)) R 0 (by omega) (by omega))
theorem l0_ev : ∀ t x : Nat, R * C - x = t → x ≤ R * C → Ev (fun K => gimballaw09_MatOnes.l0 K R (List.replicate (R * C) 0) ((R * C : Nat) : Int) x R C C (List.replicate (R * C) 0) R R R (gat R R (dia R))) true := by
  have hRC : R * C ≤ 31 * 31 := Nat.mul_le_mul hR hC
  intro t
  induction t with
  | zero =>
    intro x h1 h2
    refine Ev.succ ?_
    simp only [gimballaw09_MatOnes.l0]
    exact Ev.neg (by omega) (l1_ev hR hC R 0 (by omega) (by omega))
  | succ t ih =>
    intro x h1 h2
    refine Ev.succ ?_
    simp only [gimballaw09_MatOnes.l0]
    have hx : x < (List.replicate (R * C) (0 : Int)).length := by rw [List.length_replicate]; omega
    rw [w64 (x := (x : Int) + 1) (by omega) (by omega), rd_lt hx, List.getElem_replicate]
    exact Ev.pos (by omega) (Ev.pos (by omega) (Ev.pos (by omega) (Ev.pos rfl (ih (x + 1) (by omega) (by omega)))))
end
theorem MatOnes : gimballaw09_MatOnes.Pure := by
  intro a0 a1 w0 w1
  apply Ev.rounds
  unfold gimballaw09_MatOnes.f
  refine Ev.bind head_ev (Ev.pos rfl ?_)
  have out : (a0 < 0 ∨ a1 < 0 ∨ 4096 < a0 ∨ 4096 < a1) → Ev (fun K => gimballaw09_MatOnes.j0 K a0 a1 true) true := by
    intro h
    refine Ev.succ ?_
    simp only [gimballaw09_MatOnes.j0]
    exact Ev.pos trivial (Ev.call (new_none h) (Ev.pos rfl (Ev.pos rfl (Ev.now _))))
  by_cases h1 : a0 < 0
  · exact Ev.pos h1 (out (.inl h1))
  refine Ev.neg h1 ?_
  by_cases h2 : a1 < 0
  · exact Ev.pos h2 (out (.inr (.inl h2)))
  refine Ev.neg h2 ?_
  by_cases h3 : a0 > 4096
  · exact Ev.pos h3 (out (.inr (.inr (.inl h3))))
  refine Ev.neg h3 ?_
  by_cases h4 : a1 > 4096
  · rw [decide_eq_true h4]; exact out (.inr (.inr (.inr h4)))
  rw [decide_eq_false h4]
  obtain ⟨R, hR⟩ : ∃ R : Nat, (R : Int) = a0 % 32 := ⟨(a0 % 32).toNat, by omega⟩
  obtain ⟨C, hC⟩ : ∃ C : Nat, (C : Int) = a1 % 32 := ⟨(a1 % 32).toNat, by omega⟩
  have hR2 : R ≤ 31 := by omega
  have hC2 : C ≤ 31 := by omega
  refine Ev.succ ?_
  simp only [gimballaw09_MatOnes.j0]
  rw [and31, and31, ← hR, ← hC]
  have c1 := check_dense (R := R) (C := C) (by omega) (by omega) (d := List.replicate (R * C) 0) List.length_replicate
  have c2 := check_dense (R := R) (C := R) (by omega) (by omega) (d := gat R R (dia R)) gat_length
  obtain ⟨b, c3, hb⟩ := finite_ev (R := R) (C := C) (s := C) (d := List.replicate (R * C) 0) (by omega) (by omega) (by omega) (fun x hx => by rw [(List.mem_replicate.mp hx).2]; exact zero_fin.1) rfl
  rw [hb.mpr (fun i k hi hk => by rw [gat_const, at_gat hi hk]; exact zero_fin.2.1)] at c3
  refine Ev.neg (by decide) (Ev.call (new_eq (by omega) (by omega)) (Ev.bind (one_ev (by omega)) (Ev.bind c1 (Ev.pos rfl (Ev.pos rfl (Ev.pos rfl (Ev.bind c2 (Ev.pos rfl (Ev.bind c3 (Ev.succ ?_))))))))))
  simp only [gimballaw09_MatOnes.j1]
  refine Ev.neg (by decide) ?_
  have h := l0_ev hR2 hC2 (R * C) 0 (by omega) (by omega)
  rw [List.length_replicate]
  exact h
end Go.Proofs.YtenegelkbfmjkaaDoor.Pure
