/- A matrix times a list, and a matrix and a product of two lists, with what they have met. -/
import Derived.Test.YtfogmgcpajndcaaTGem
import Derived.Test.YtfogmgcpajndcaaTCalc
import Derived.Test.YtfogmgcpajndcaaTRow
import Derived.Test.YtfogmgcpajndcaaTClone
import Derived.Test.YtfogmgcpajndcaaFx10
import Derived.Test.YtfogmgcpajndcaaFx11
namespace Gim
open Go Go.RowKit Go.Proofs.YtfogmgcpajndcaaW.PrintWords Go.Proofs.YtfogmgcpajndcaaW.PrintLast Go.Proofs.YtfogmgcpajndcaaW.PrintMore Go.Proofs.Ytfogmgcpajndcaa.F
set_option linter.unusedVariables false
set_option linter.unusedSectionVars false

noncomputable def vS (X : Nat → Nat → Int) (v : List Int) (Q : Nat) (i : Nat) : Int := dS (X i) (fun j => rd v (j : Int)) Q
noncomputable def vF (X : Nat → Nat → Int) (v : List Int) (Q : Nat) (i : Nat) : BitVec 8 := orS (dF (X i) (fun j => rd v (j : Int))) Q
section
variable {P Q : Nat} (hP : P ≤ 100) (hQ : Q ≤ 100) {da v : List Int} (ha : ∀ x ∈ da, U x) (hv : ∀ x ∈ v, U x) (hl : v.length = Q)
include hP hQ ha hv hl
theorem gemv_l1 {i : Nat} (hi : i < P) (G : BitVec 8) : ∀ t j : Nat, Q - j = t → j ≤ Q → ∀ F : Int, F8 F → B8 F = G ||| orS (dF (den Q P da i) (fun j => rd v (j : Int))) j →
    ∃ F', F8 F' ∧ B8 F' = G ||| vF (den Q P da) v Q i ∧ ∀ (ρ : List Int × Int × Int), Ev (fun K => mul_Gemv.l0 K v (cnt (i + 1) (vS (den Q P da) v Q)) P ((i : Int) + 1) F' P Q Q da) ρ →
      Ev (fun K => mul_Gemv.l1 K v (cnt i (vS (den Q P da) v Q)) i (dS (den Q P da i) (fun j => rd v (j : Int)) j) P i Q j F P Q Q da) ρ := by
  intro t
  induction t with
  | zero =>
    intro j h1 h2 F hF hB
    obtain rfl : j = Q := by omega
    refine ⟨F, hF, hB, fun ρ h => Ev.succ ?_⟩
    rw [cnt_succ] at h
    simp only [mul_Gemv.l1]
    rw [w64 (x := (i : Int) + 1) (by omega) (by omega)]
    exact Ev.neg (by omega) (Ev.pos (cnt_short _ (by omega)) h)
  | succ t ih =>
    intro j h1 h2 F hF hB
    have ux : U (den Q P da i j) := den_U ha i j
    have uy := rd_U hv j
    have us := dS_U (x := den Q P da i) (y := fun j => rd v (j : Int)) (fun j => den_U ha i j) (rd_U hv) j
    obtain ⟨F1, e1, f1, b1⟩ := cMul (F := F) ux uy
    obtain ⟨F2, e2, f2, b2⟩ := cAdd (F := F1) us (mv_U ux uy)
    obtain ⟨F', g1, g2, ev⟩ := ih (j + 1) (by omega) (by omega) F2 f2 (by rw [b2, b1, hB]; simp only [orS, dF]; ac_rfl)
    refine ⟨F', g1, g2, fun ρ h => Ev.succ ?_⟩
    simp only [mul_Gemv.l1]
    rw [w64 (x := (j : Int) + 1) (by omega) (by omega)]
    exact Ev.pos (by omega) (Ev.call (at_eq ⟨by omega, by omega, by omega⟩ _ _ _) (Ev.pos (by omega) (Ev.pos (by omega) (Ev.bind e1 (Ev.bind e2 (ev ρ h))))))
theorem gemv_l0 (G : BitVec 8) : ∀ t i : Nat, P - i = t → i ≤ P → ∀ F : Int, F8 F → B8 F = G ||| orS (vF (den Q P da) v Q) i →
    ∃ F', F8 F' ∧ B8 F' = G ||| orS (vF (den Q P da) v Q) P ∧ Ev (fun K => mul_Gemv.l0 K v (cnt i (vS (den Q P da) v Q)) P i F P Q Q da) (cnt P (vS (den Q P da) v Q), 0, F') := by
  intro t
  induction t with
  | zero =>
    intro i h1 h2 F hF hB
    obtain rfl : i = P := by omega
    refine ⟨F, hF, hB, Ev.succ ?_⟩
    simp only [mul_Gemv.l0]
    exact Ev.neg (by omega) (Ev.now _)
  | succ t ih =>
    intro i h1 h2 F hF hB
    obtain ⟨F1, f1, b1, ev1⟩ := gemv_l1 hP hQ ha hv hl (i := i) (by omega) (B8 F) Q 0 (by omega) (by omega) F hF (by simp [orS])
    obtain ⟨F', g1, g2, ev⟩ := ih (i + 1) (by omega) (by omega) F1 f1 (by rw [b1, hB]; simp only [orS]; ac_rfl)
    refine ⟨F', g1, g2, Ev.succ ?_⟩
    simp only [mul_Gemv.l0]
    exact Ev.pos (by omega) (ev1 _ ev)
/-- THE PRODUCT OF A MATRIX AND A LIST. -/
theorem gemv_ev (hla : da.length = P * Q) {F : Int} (hF : F8 F) : ∃ F', F8 F' ∧ B8 F' = B8 F ||| orS (vF (den Q P da) v Q) P ∧ Ev (fun K => mul_Gemv.f K F P Q Q da v) (cnt P (vS (den Q P da) v Q), 0, F') := by
  obtain ⟨F', g1, g2, ev⟩ := gemv_l0 hP hQ ha hv hl (B8 F) P 0 (by omega) (by omega) F hF (by simp [orS])
  refine ⟨F', g1, g2, ?_⟩
  have ne : ((Q : Int) != (v.length : Int)) = false := by rw [hl]; simp
  unfold mul_Gemv.f
  refine Ev.bind (check_dense (by omega) (by omega) hla) (Ev.pos rfl (Ev.succ ?_))
  simp only [mul_Gemv.j0]
  rw [ne]
  exact Ev.neg (by simp) ev
end
theorem gemv_no {P Q : Nat} (hP : P ≤ 100) (hQ : Q ≤ 100) {da v : List Int} (hla : da.length = P * Q) (hl : v.length ≠ Q) (F : Int) : Ev (fun K => mul_Gemv.f K F P Q Q da v) ([], 4, F) := by
  have ne : ((Q : Int) != (v.length : Int)) = true := by simp; omega
  unfold mul_Gemv.f
  refine Ev.bind (check_dense (by omega) (by omega) hla) (Ev.pos rfl (Ev.succ ?_))
  simp only [mul_Gemv.j0]
  rw [ne]
  exact Ev.pos (by simp) (Ev.now _)
/-- Numbers of which the first n are changed already. -/
def par2 (R C : Nat) (g0 g : Nat → Nat → Int) (n : Nat) : List Int := (List.range (R * C)).map fun x => if x < n then g (x / C) (x % C) else g0 (x / C) (x % C)
theorem par2_length {R C n : Nat} {g0 g : Nat → Nat → Int} : (par2 R C g0 g n).length = R * C := by simp [par2]
theorem par2_zero {R C : Nat} {g0 g : Nat → Nat → Int} : par2 R C g0 g 0 = gat R C g0 := by simp [par2, gat]
theorem par2_full {R C : Nat} {g0 g : Nat → Nat → Int} : par2 R C g0 g (R * C) = gat R C g := by
  unfold par2 gat
  refine List.map_congr_left fun x hx => ?_
  rw [if_pos (List.mem_range.mp hx)]
theorem par2_get {R C n x : Nat} {g0 g : Nat → Nat → Int} (h : x < (par2 R C g0 g n).length) : (par2 R C g0 g n)[x] = if x < n then g (x / C) (x % C) else g0 (x / C) (x % C) := by simp [par2]
theorem at_par2 {R C i k : Nat} {g0 g : Nat → Nat → Int} (hi : i < R) (hk : k < C) : at4 R C C (par2 R C g0 g (i * C + k)) i k = g0 i k := by
  rw [at_dense par2_length hi hk, rd_lt (by rw [par2_length]; exact place_lt hi hk), par2_get, if_neg (by omega), place_div hk, place_mod hk]
theorem set_par2 {R C i k : Nat} {g0 g : Nat → Nat → Int} (hi : i < R) (hk : k < C) : set4 R C C (par2 R C g0 g (i * C + k)) i k (g i k) = par2 R C g0 g (i * C + k + 1) := by
  unfold set4
  rw [if_pos (inB_dense par2_length hi hk)]
  have hn : ((i : Int) * (C : Int) + (k : Int)).toNat = i * C + k := by
    have : (i : Int) * (C : Int) + (k : Int) = ((i * C + k : Nat) : Int) := by push_cast; rfl
    rw [this, Int.toNat_natCast]
  rw [hn]
  apply List.ext_getElem
  · rw [List.length_set, par2_length, par2_length]
  · intro x h1 h2
    rw [List.getElem_set]
    by_cases c : i * C + k = x
    · subst c
      rw [if_pos rfl, par2_get, if_pos (by omega), place_div hk, place_mod hk]
    · rw [if_neg c, par2_get, par2_get]
      by_cases c2 : x < i * C + k
      · rw [if_pos c2, if_pos (by omega)]
      · rw [if_neg c2, if_neg (by omega)]
noncomputable def rS (X : Nat → Nat → Int) (a : Int) (u v : List Int) (i k : Nat) : Int := av (X i k) (mv (mv a (rd u (i : Int))) (rd v (k : Int)))
noncomputable def rF (X : Nat → Nat → Int) (a : Int) (u v : List Int) (i k : Nat) : BitVec 8 := mf (mv a (rd u (i : Int))) (rd v (k : Int)) ||| af (X i k) (mv (mv a (rd u (i : Int))) (rd v (k : Int)))
noncomputable def rG (X : Nat → Nat → Int) (a : Int) (u v : List Int) (Q i : Nat) : BitVec 8 := mf a (rd u (i : Int)) ||| orS (rF X a u v i) Q
section
variable {P Q : Nat} (hP : P ≤ 100) (hQ : Q ≤ 100) {da u v : List Int} {a : Int} (hd : ∀ x ∈ da, U x) (ha : U a) (hu : ∀ x ∈ u, U x) (hv : ∀ x ∈ v, U x) (hlu : u.length = P) (hlv : v.length = Q)
include hP hQ hd ha hu hv hlu hlv
theorem ger_l1 {i : Nat} (hi : i < P) (G : BitVec 8) : ∀ t k : Nat, Q - k = t → k ≤ Q → ∀ F : Int, F8 F → B8 F = G ||| orS (rF (den Q P da) a u v i) k →
    ∃ F', F8 F' ∧ B8 F' = G ||| orS (rF (den Q P da) a u v i) Q ∧ ∀ (ρ : Int × Int × Int × List Int × Int × Int), Ev (fun K => mul_Ger.l0 K a u v P ((i : Int) + 1) F' P Q Q (par2 P Q (den Q P da) (rS (den Q P da) a u v) ((i + 1) * Q))) ρ →
      Ev (fun K => mul_Ger.l1 K a u v i (mv a (rd u (i : Int))) P i Q k F P Q Q (par2 P Q (den Q P da) (rS (den Q P da) a u v) (i * Q + k))) ρ := by
  intro t
  induction t with
  | zero =>
    intro k h1 h2 F hF hB
    obtain rfl : k = Q := by omega
    refine ⟨F, hF, hB, fun ρ h => Ev.succ ?_⟩
    simp only [mul_Ger.l1]
    rw [w64 (x := (i : Int) + 1) (by omega) (by omega), row_end]
    exact Ev.neg (by omega) h
  | succ t ih =>
    intro k h1 h2 F hF hB
    have ux : U (den Q P da i k) := den_U hd i k
    have uf := mv_U ha (rd_U hu i)
    have uy := rd_U hv k
    obtain ⟨F1, e1, f1, b1⟩ := cMul (F := F) uf uy
    obtain ⟨F2, e2, f2, b2⟩ := cAdd (F := F1) ux (mv_U uf uy)
    obtain ⟨F', g1, g2, ev⟩ := ih (k + 1) (by omega) (by omega) F2 f2 (by rw [b2, b1, hB]; simp only [orS, rF]; ac_rfl)
    refine ⟨F', g1, g2, fun ρ h => Ev.succ ?_⟩
    simp only [mul_Ger.l1]
    rw [w64 (x := (k : Int) + 1) (by omega) (by omega)]
    refine Ev.pos (by omega) (Ev.call (at_eq ⟨by omega, by omega, by omega⟩ _ _ _) ?_)
    rw [at_par2 hi (by omega)]
    refine Ev.pos (by omega) (Ev.pos (by omega) (Ev.bind e1 (Ev.bind e2 (Ev.call (set_eq ⟨by omega, by omega, by omega⟩ _ _ _ _) ?_))))
    have := set_par2 (g0 := den Q P da) (g := rS (den Q P da) a u v) hi (show k < Q by omega)
    rw [show (av (den Q P da i k) (mv (mv a (rd u (i : Int))) (rd v (k : Int))), F2).1 = rS (den Q P da) a u v i k from rfl, this]
    exact ev ρ h
theorem ger_l0 (G : BitVec 8) : ∀ t i : Nat, P - i = t → i ≤ P → ∀ F : Int, F8 F → B8 F = G ||| orS (rG (den Q P da) a u v Q) i →
    ∃ F', F8 F' ∧ B8 F' = G ||| orS (rG (den Q P da) a u v Q) P ∧
      Ev (fun K => mul_Ger.l0 K a u v P i F P Q Q (par2 P Q (den Q P da) (rS (den Q P da) a u v) (i * Q))) ((P : Int), (Q : Int), (Q : Int), gat P Q (rS (den Q P da) a u v), 0, F') := by
  intro t
  induction t with
  | zero =>
    intro i h1 h2 F hF hB
    obtain rfl : i = P := by omega
    refine ⟨F, hF, hB, Ev.succ ?_⟩
    simp only [mul_Ger.l0]
    rw [par2_full]
    exact Ev.neg (by omega) (Ev.now _)
  | succ t ih =>
    intro i h1 h2 F hF hB
    obtain ⟨F0, e0, f0, b0⟩ := cMul (F := F) ha (rd_U hu i)
    obtain ⟨F1, f1, b1, ev1⟩ := ger_l1 hP hQ hd ha hu hv hlu hlv (i := i) (by omega) (B8 F0) Q 0 (by omega) (by omega) F0 f0 (by simp [orS])
    obtain ⟨F', g1, g2, ev⟩ := ih (i + 1) (by omega) (by omega) F1 f1 (by rw [b1, b0, hB]; simp only [orS, rG]; ac_rfl)
    refine ⟨F', g1, g2, Ev.succ ?_⟩
    simp only [mul_Ger.l0]
    exact Ev.pos (by omega) (Ev.pos (by omega) (Ev.pos (by omega) (Ev.bind e0 (ev1 _ ev))))
/-- THE MATRIX AND THE PRODUCT OF TWO LISTS. -/
theorem ger_ev (hla : da.length = P * Q) {F : Int} (hF : F8 F) : ∃ F', F8 F' ∧ B8 F' = B8 F ||| orS (rG (den Q P da) a u v Q) P ∧
    Ev (fun K => mul_Ger.f K F P Q Q da a u v) ((P : Int), (Q : Int), (Q : Int), gat P Q (rS (den Q P da) a u v), 0, F') := by
  obtain ⟨F', g1, g2, ev⟩ := ger_l0 hP hQ hd ha hu hv hlu hlv (B8 F) P 0 (by omega) (by omega) F hF (by simp [orS])
  refine ⟨F', g1, g2, ?_⟩
  have ne : ((Q : Int) != (v.length : Int)) = false := by rw [hlv]; simp
  have cl := clone_ev (R := P) (C := Q) (by omega) (by omega) (s := (Q : Int)) (by omega) da
  rw [Nat.zero_mul, par2_zero] at ev
  unfold mul_Ger.f
  refine Ev.bind (check_dense (by omega) (by omega) hla) (Ev.pos rfl (Ev.pos (by omega) (Ev.succ ?_)))
  simp only [mul_Ger.j0]
  rw [ne]
  exact Ev.neg (by simp) (Ev.bind cl ev)
end
theorem ger_no {P Q : Nat} (hP : P ≤ 100) (hQ : Q ≤ 100) {da u v : List Int} (hla : da.length = P * Q) (hl : v.length ≠ Q) (F a : Int) : Ev (fun K => mul_Ger.f K F P Q Q da a u v) (0, 0, 0, [], 4, F) := by
  have ne : ((Q : Int) != (v.length : Int)) = true := by simp; omega
  have no : Ev (fun K => mul_Ger.j0 K a u v true F P Q Q da) (0, 0, 0, [], 4, F) := by
    refine Ev.succ ?_
    simp only [mul_Ger.j0]
    exact Ev.pos (by simp) (Ev.now _)
  unfold mul_Ger.f
  refine Ev.bind (check_dense (by omega) (by omega) hla) (Ev.pos rfl ?_)
  by_cases c : (P : Int) = (u.length : Int)
  · rw [ne]; exact Ev.pos c no
  · exact Ev.neg c no
end Gim
