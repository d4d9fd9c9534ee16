/- MulNears: a product is near the exact one, where nothing was too great or too small; for every input. -/
import Derived.Test.YtfogmgcpajndcaaDoorTx0
import Derived.Test.YtfogmgcpajndcaaDoorRx0
set_option linter.constructorNameAsVariable false
set_option linter.unusedSimpArgs false
set_option linter.unusedVariables false
set_option linter.unusedSectionVars false
namespace Go.Proofs.YtfogmgcpajndcaaDoor.Pure
open Gim Go Go.RowKit Go.Proofs.YtfogmgcpajndcaaDoor.F Go.Proofs.YtfogmgcpajndcaaDoorW.PrintWords Go.Proofs.YtfogmgcpajndcaaDoorW.PrintLast
set_option linter.unusedVariables false
set_option linter.unusedSectionVars false

theorem and7_nat (x : Int) : ∃ n : Nat, Go.bits .and .i64 x 7 = (n : Int) ∧ n ≤ 7 := by
  rw [and7]
  exact ⟨(x % 8).toNat, by omega, by omega⟩
theorem and3_nat (x : Int) : ∃ n : Nat, Go.bits .and .i64 x 3 = (n : Int) ∧ n ≤ 3 := by
  rw [and3]
  exact ⟨(x % 4).toNat, by omega, by omega⟩
theorem rsgn_no {x : Rat} (h : x ≤ 0) : ¬ rsgn x > 0 := by
  unfold rsgn
  split
  · decide
  · split
    · decide
    · rename_i h1 h2
      exfalso
      grind
section
variable {P Q R : Nat} (hP : P ≤ 7) (hQ : Q ≤ 7) (hR : R ≤ 7) {da db o : List Int} (ha : ∀ x ∈ da, U x) (hb : ∀ x ∈ db, U x)
  (fa : ∀ i j : Nat, i < P → j < Q → fin (at4 P Q Q da i j)) (fb : ∀ j k : Nat, j < Q → k < R → fin (at4 Q R R db j k))
  (ho : ∀ i k : Nat, i < P → k < R → U (at4 P R R o i k) ∧ fin (at4 P R R o i k) ∧ rabs (val (at4 P R R o i k) - sm (fun j => val (at4 P Q Q da i j) * val (at4 Q R R db j k)) Q) ≤ sm (fun j => rabs (val (at4 P Q Q da i j) * val (at4 Q R R db j k))) Q * ((2 * (Q : Int) : Int) : Rat) * pw (-53))
include hP hQ hR ha hb fa fb ho
theorem l2_ev {i k : Nat} (hi : i < P) (hk : k < R) (next : Ev (fun K => gimballaw11_MulNears.l1 K P Q R i ((k : Int) + 1) P Q Q Q R R P R R da db o) true) :
    ∀ m j (E : Int) (r1 r2 : Bool) (k1 k2 : List Int) (e1 e2 : Int), j + m = Q → 2148 ≤ E → E + m ≤ 10000 →
      Nm E (sm (fun j => val (at4 P Q Q da i j) * val (at4 Q R R db j k)) j) r1 k1 e1 → Nm E (sm (fun j => rabs (val (at4 P Q Q da i j) * val (at4 Q R R db j k))) j) r2 k2 e2 →
      Ev (fun K => gimballaw11_MulNears.l2 K P Q R i k j P Q Q Q R R P R R r1 k1 e1 r2 k2 e2 da db o) true := by
  intro m
  induction m with
  | zero =>
    intro j E r1 r2 k1 k2 e1 e2 hj hE hE2 n1 n2
    obtain rfl : j = Q := by omega
    obtain ⟨ud, fd, hbd⟩ := ho i k hi hk
    obtain ⟨p1, p2, p3, ep, np⟩ := of_ev rfl ud fd
    obtain ⟨s1, s2, s3, es, ns⟩ := num_sub_ev (E := E) (by omega) (by omega) (np.mono (by omega)) n1
    obtain ⟨ab, nab⟩ := abs_ev ns
    obtain ⟨i1, i2, i3, ei, ni⟩ := int_ev (z := 2 * (j : Int)) (by omega) (by omega)
    obtain ⟨m1, m2, m3, em, nm⟩ := num_mul_ev (E := E) (E' := 64) (by omega) (by omega) (by decide) (by decide) n2 ni
    obtain ⟨t, nt⟩ := two_ev (E := 53) (a := -53) (by decide) (by decide) (by decide) (by decide)
    obtain ⟨q1, q2, q3, ek, nk⟩ := num_mul_ev (E := E + 64) (E' := 53) (by omega) (by omega) (by decide) (by decide) nm nt
    have ec := num_cmp_ev (E := E + 64 + 53) (by omega) (by omega) (nab.mono (by omega)) nk
    refine Ev.succ ?_
    simp only [gimballaw11_MulNears.l2]
    rw [w64 (x := 2 * (j : Int)) (by omega) (by omega), w64 (x := (k : Int) + 1) (by omega) (by omega)]
    refine Ev.neg (by omega) (Ev.call (at_eq ⟨by omega, by omega, by omega⟩ _ _ _) (Ev.bind ep (Ev.bind es (Ev.call ab (Ev.bind ei (Ev.bind em (Ev.call t (Ev.bind ek (Ev.bind ec (Ev.neg (rsgn_no ?_) next))))))))))
    grind
  | succ m ih =>
    intro j E r1 r2 k1 k2 e1 e2 hj hE hE2 n1 n2
    have jq : j < Q := by omega
    obtain ⟨p1, p2, p3, ep, np⟩ := of_ev rfl (at_U ha (r := P) (c := Q) (s := Q) (i : Int) (j : Int)) (fa i j hi jq)
    obtain ⟨q1, q2, q3, eq, nq⟩ := of_ev rfl (at_U hb (r := Q) (c := R) (s := R) (j : Int) (k : Int)) (fb j k jq hk)
    obtain ⟨m1, m2, m3, em, nm⟩ := num_mul_ev (by decide) (by decide) (by decide) (by decide) np nq
    obtain ⟨a1, a2, a3, ea, na⟩ := num_add_ev (E := E) (by omega) (by omega) n1 (nm.mono (by omega))
    obtain ⟨ab, nab⟩ := abs_ev nm
    obtain ⟨b1, b2, b3, eb, nb⟩ := num_add_ev (E := E) (by omega) (by omega) n2 (nab.mono (by omega))
    have hh := ih (j + 1) (E + 1) a1 b1 a2 b2 a3 b3 (by omega) (by omega) (by omega) na nb
    refine Ev.succ ?_
    simp only [gimballaw11_MulNears.l2]
    rw [w64 (x := (j : Int) + 1) (by omega) (by omega)]
    exact Ev.pos (by omega) (Ev.call (at_eq ⟨by omega, by omega, by omega⟩ _ _ _) (Ev.bind ep (Ev.call (at_eq ⟨by omega, by omega, by omega⟩ _ _ _) (Ev.bind eq (Ev.bind em (Ev.bind ea (Ev.bind em (Ev.call ab (Ev.bind eb hh)))))))))
theorem l1_ev {i : Nat} (hi : i < P) (next : Ev (fun K => gimballaw11_MulNears.l0 K P Q R ((i : Int) + 1) P Q Q Q R R P R R da db o) true) : ∀ m k, k + m = R →
    Ev (fun K => gimballaw11_MulNears.l1 K P Q R i k P Q Q Q R R P R R da db o) true := by
  intro m
  induction m with
  | zero =>
    intro k hk
    obtain rfl : k = R := by omega
    refine Ev.succ ?_
    simp only [gimballaw11_MulNears.l1]
    rw [w64 (x := (i : Int) + 1) (by omega) (by omega)]
    exact Ev.neg (by omega) next
  | succ m ih =>
    intro k hk
    have hh := ih (k + 1) (by omega)
    refine Ev.succ ?_
    simp only [gimballaw11_MulNears.l1]
    exact Ev.pos (by omega) (l2_ev hP hQ hR ha hb fa fb ho hi (by omega) hh Q 0 2148 _ _ _ _ _ _ (by omega) (by decide) (by omega) (Nm.zero (by decide)) (Nm.zero (by decide)))
theorem l0_ev : ∀ m i, i + m = P → Ev (fun K => gimballaw11_MulNears.l0 K P Q R i P Q Q Q R R P R R da db o) true := by
  intro m
  induction m with
  | zero =>
    intro i hi
    obtain rfl : i = P := by omega
    refine Ev.succ ?_
    simp only [gimballaw11_MulNears.l0]
    exact Ev.neg (by omega) (Ev.now _)
  | succ m ih =>
    intro i hi
    have hh := ih (i + 1) (by omega)
    refine Ev.succ ?_
    simp only [gimballaw11_MulNears.l0]
    exact Ev.pos (by omega) (l1_ev hP hQ hR ha hb fa fb ho (by omega) hh R 0 (by omega))
end
theorem MulNears (a0 : Int) (w0 : (Lit.int .i64 a0).wf = true) (a1 : Int) (w1 : (Lit.int .i64 a1).wf = true) (a2 : Int) (w2 : (Lit.int .i64 a2).wf = true) (all : List Int) (w3 : ∀ x ∈ all, (Lit.int .u64 x).wf = true) :
    ∃ k, gimballaw11_MulNears.f k a0 a1 a2 all = some true := by
  have hu : ∀ x ∈ all, U x := fun x hx => U_of_wf (w3 x hx)
  apply Ev.rounds
  unfold gimballaw11_MulNears.f
  refine Ev.call rfl ?_
  by_cases hl : (all.length : Int) > 100
  · exact Ev.pos hl (Ev.now _)
  refine Ev.neg hl ?_
  obtain ⟨P, eP, hP⟩ := and3_nat a0
  obtain ⟨Q, eQ, hQ⟩ := and7_nat a1
  obtain ⟨R, eR, hR⟩ := and3_nat a2
  rw [eP, eQ, eR]
  obtain ⟨da, wa, ea⟩ := made11_ev (R := P) (C := Q) (by omega) (by omega) hu (by omega) (show (0 : Int) ≤ 0 by decide) (by decide)
  obtain ⟨db, wb, eb⟩ := made11_ev (R := Q) (C := R) (by omega) (by omega) hu (by omega) (show (0 : Int) ≤ 3 by decide) (by decide)
  obtain ⟨F, f8, eF, eg⟩ := gemm_ev (P := P) (Q := Q) (R := R) (by omega) (by omega) (by omega) wa.2 wb.2 wa.1 wb.1 F8_0
  have out : ∀ {o : List Int}, Ev (fun K => gimballaw11_MulNears.j0 K P Q R true P Q Q Q R R P R R da db o) true := by
    intro o
    refine Ev.succ ?_
    simp only [gimballaw11_MulNears.j0]
    exact Ev.pos trivial (Ev.now _)
  refine Ev.bind ea (Ev.bind eb (Ev.bind eg (Ev.pos rfl ?_)))
  obtain ⟨t, et, ft⟩ := finite_ev (R := P) (C := Q) (s := (Q : Int)) (by omega) (by omega) (by omega) wa.2
  refine Ev.bind et ?_
  cases t
  · exact Ev.neg (by simp) out
  obtain ⟨t, et2, ft2⟩ := finite_ev (R := Q) (C := R) (s := (R : Int)) (by omega) (by omega) (by omega) wb.2
  refine Ev.pos rfl (Ev.bind et2 ?_)
  cases t
  · exact Ev.neg (by simp) out
  refine Ev.pos rfl ?_
  have fa := ft.mp rfl
  have fb := ft2.mp rfl
  by_cases c : Go.bits .and .u8 F 22 = 0
  · have ne : (Go.bits .and .u8 F 22 != 0) = false := by rw [c]; rfl
    dsimp only
    rw [ne]
    refine Ev.succ ?_
    simp only [gimballaw11_MulNears.j0]
    have hc := cln_and c
    rw [eF, B8_0, BitVec.zero_or] at hc
    refine Ev.neg (by simp) (l0_ev (by omega) hQ (by omega) wa.2 wb.2 fa fb (fun i k hi hk => ?_) P 0 (by omega))
    rw [at_gat hi hk]
    have hck := cln_orS (cln_orS hc i hi) k hk
    have hd := dot_near (x := den Q P da i) (y := fun j => den R Q db j k) (fun j => den_U wa.2 i j) (fun j => den_U wb.2 j k) (n := Q) (by omega) (fun j hj => fa i j hi hj) (fun j hj => fb j k hj hk) hck
    exact ⟨gS_U (fun i j => den_U wa.2 i j) (fun i j => den_U wb.2 i j) Q i k, hd⟩
  · have ne : (Go.bits .and .u8 F 22 != 0) = true := by simpa using c
    dsimp only
    rw [ne]
    exact out
end Go.Proofs.YtfogmgcpajndcaaDoor.Pure
