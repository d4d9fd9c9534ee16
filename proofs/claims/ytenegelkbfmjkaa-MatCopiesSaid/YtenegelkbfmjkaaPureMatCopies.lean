/- MatCopies: the same matrix in new memory, its rows for columns, some of it; for every input. -/
import Derived.Test.YtenegelkbfmjkaaTClone
import Derived.Test.YtenegelkbfmjkaaTTurn
import Derived.Test.YtenegelkbfmjkaaTCut
import Derived.Test.YtenegelkbfmjkaaTSame
import Derived.Test.YtenegelkbfmjkaaTMade
import Derived.Test.YtenegelkbfmjkaaFx5
import Derived.Test.YtenegelkbfmjkaaFx9
namespace Go.Proofs.Ytenegelkbfmjkaa.Pure
open Gim Go.RowKit Go.Proofs.Ytenegelkbfmjkaa.F Go.Proofs.YtenegelkbfmjkaaW.PrintWords Go.Proofs.YtenegelkbfmjkaaW.PrintLast
set_option linter.unusedVariables false
set_option linter.unusedSectionVars false

theorem head_ok : gimballaw09_head.f 200 = some true := by decide +kernel
theorem head_ev : Ev (fun k => gimballaw09_head.f k) true := Ev.of (fun k => gimballaw09_head.mono k) head_ok
theorem one_at {r c s : Int} {d : List Int} (i k : Int) : at4 ((1 : Nat) : Int) ((1 : Nat) : Int) ((1 : Nat) : Int) (gat 1 1 (atC r c s d i k)) ((0 : Nat) : Int) ((0 : Nat) : Int) = at4 r c s d i k := by
  rw [at_gat (by decide) (by decide)]
  unfold atC
  simp

section
variable {R C S : Nat} {L : List Int} (hR : R ≤ 7) (hC : C ≤ 7) (hCS : C ≤ S) (hS : S ≤ 10) (hL : Words (R * S) L)
include hR hC hCS hS hL
theorem isM : isMat R C S L := by
  refine ⟨by unfold badSize; omega, ?_⟩
  by_cases h : R = 0
  · left; omega
  · right; right
    have h1 := hL.1
    obtain ⟨q, rfl⟩ : ∃ q, R = q + 1 := ⟨R - 1, by omega⟩
    rw [h1, Nat.add_mul]
    push_cast
    have : (((q : Int) + 1) - 1) * (S : Int) = (q : Int) * S := by congr 1; omega
    rw [this]; omega
theorem l5_ev {i k : Int} {P Q : Nat} (i0 : 0 ≤ i) (k0 : 0 ≤ k) (hP : i + P = R) (hQ : k + Q = C) {x : Nat} (hx : x < P) {g : Bool}
    (next : Ev (fun K => gimballaw09_MatCopies.l4 K i k ((x + 1 : Nat) : Int) R C S L P Q Q (gat P Q (atC R C S L i k))) g) :
    ∀ t y : Nat, Q - y = t → y ≤ Q → Ev (fun K => gimballaw09_MatCopies.l5 K i k x y R C S L P Q Q (gat P Q (atC R C S L i k))) g := by
  intro t
  induction t with
  | zero =>
    intro y h1 h2
    refine Ev.succ ?_
    simp only [gimballaw09_MatCopies.l5]
    rw [w64 (x := (x : Int) + 1) (by omega) (by omega)]
    exact Ev.neg (by omega) next
  | succ t ih =>
    intro y h1 h2
    refine Ev.succ ?_
    simp only [gimballaw09_MatCopies.l5]
    rw [w64 (x := (y : Int) + 1) (by omega) (by omega), w64 (x := i + (x : Int)) (by omega) (by omega), w64 (x := k + (y : Int)) (by omega) (by omega)]
    refine Ev.pos (by omega) (Ev.call (at_eq ⟨by omega, by omega, by omega⟩ _ _ _) (Ev.call (at_eq ⟨by omega, by omega, by omega⟩ _ _ _) (Ev.pos ?_ (ih (y + 1) (by omega) (by omega)))))
    rw [at_gat hx (by omega)]
    rfl
theorem l4_ev {i k : Int} {P Q : Nat} (i0 : 0 ≤ i) (k0 : 0 ≤ k) (hP : i + P = R) (hQ : k + Q = C) :
    ∀ t x : Nat, P - x = t → x ≤ P → Ev (fun K => gimballaw09_MatCopies.l4 K i k x R C S L P Q Q (gat P Q (atC R C S L i k))) true := by
  intro t
  induction t with
  | zero =>
    intro x h1 h2
    refine Ev.succ ?_
    simp only [gimballaw09_MatCopies.l4]
    exact Ev.neg (by omega) (Ev.now _)
  | succ t ih =>
    intro x h1 h2
    refine Ev.succ ?_
    simp only [gimballaw09_MatCopies.l4]
    exact Ev.pos (by omega) (l5_ev hR hC hCS hS hL i0 k0 hP hQ (by omega) (ih (x + 1) (by omega) (by omega)) Q 0 (by omega) (by omega))
theorem j5_no (i k : Int) (a b c : Int) (d : List Int) : Ev (fun K => gimballaw09_MatCopies.j5 K i k 4 true R C S L a b c d) true := by
  refine Ev.succ ?_
  simp only [gimballaw09_MatCopies.j5]
  exact Ev.pos trivial (Ev.now _)
theorem j5_yes {i k : Int} (i0 : 0 ≤ i) (k0 : 0 ≤ k) (i1 : i < R) (k1 : k < C) : Ev (fun K => gimballaw09_MatCopies.j5 K i k 0 false R C S L ((1 : Nat) : Int) ((1 : Nat) : Int) ((1 : Nat) : Int) (gat 1 1 (atC R C S L i k))) true := by
  obtain ⟨P, hP⟩ : ∃ P : Nat, (P : Int) = R - i := ⟨((R : Int) - i).toNat, by omega⟩
  obtain ⟨Q, hQ⟩ : ∃ Q : Nat, (Q : Int) = C - k := ⟨((C : Int) - k).toNat, by omega⟩
  have hm := isM hR hC hCS hS hL
  have c1 := cut_ok (r := R) (c := C) (s := S) (d := L) (i := i) (k := k) (P := P) (Q := Q) ⟨hm, i0, k0, by omega, by omega, by omega, by omega⟩
  have c2 := cut_no (r := R) (c := C) (s := S) (d := L) (i := i) (k := k) (p := (P : Int) + 1) (q := 1) (by omega) (by decide) (fun h => by
    obtain ⟨_, _, _, _, _, h, _⟩ := h; omega)
  refine Ev.succ ?_
  simp only [gimballaw09_MatCopies.j5]
  rw [w64 (x := (R : Int) - i) (by omega) (by omega), w64 (x := (C : Int) - k) (by omega) (by omega), ← hP, ← hQ, w64 (x := (P : Int) + 1) (by omega) (by omega)]
  refine Ev.neg (by decide) (Ev.bind c1 (Ev.bind c2 (Ev.pos trivial (Ev.pos rfl (Ev.pos rfl (Ev.call (at_eq ⟨by decide, by decide, by decide⟩ _ _ _) (Ev.call (at_eq ⟨by omega, by omega, by omega⟩ _ _ _) ?_)))))))
  have h1 := one_at (r := R) (c := C) (s := S) (d := L) i k
  have h2 : (at4 ((1 : Nat) : Int) ((1 : Nat) : Int) ((1 : Nat) : Int) (gat 1 1 (atC R C S L i k)) 0 0 != at4 R C S L i k) = false := by
    rw [show at4 ((1 : Nat) : Int) ((1 : Nat) : Int) ((1 : Nat) : Int) (gat 1 1 (atC R C S L i k)) 0 0 = at4 R C S L i k from h1]; simp
  rw [h2]
  refine Ev.succ ?_
  simp only [gimballaw09_MatCopies.j6]
  exact Ev.neg (by decide) (l4_ev hR hC hCS hS hL i0 k0 (by omega) (by omega) P 0 (by omega) (by omega))
theorem same_self : Ev (fun K => mat_Matrix_Same.f K R C S L R C S L) true := by
  have h := Gim.same_ev (R := R) (C := C) (r' := R) (c' := C) (s := S) (s' := S) ⟨by omega, by omega, by omega⟩ ⟨by omega, by omega, by omega⟩ L L
  rwa [decide_eq_true ⟨rfl, rfl, fun i _ k _ => rfl⟩] at h
variable {a0 a1 a2 : Int} {all : List Int} (mk : Ev (fun K => gimballaw09_Made.f K a0 a1 a2 all) ((R : Int), (C : Int), (S : Int), L))
include mk
theorem tail_ev {i k : Int} : ∀ {D : List Int} {n : Nat}, D.length = n → n ≤ 100 → ∀ (p q s : Int), ∀ t x : Nat, n - x = t → x ≤ n → ∀ D : List Int, D.length = n →
    Ev (fun K => gimballaw09_MatCopies.l3 K a0 a1 a2 all i k n x R C S L p q s D) true := by
  intro _ n _ hn p q s t
  induction t with
  | zero =>
    intro x h1 h2 D hD
    refine Ev.succ ?_
    simp only [gimballaw09_MatCopies.l3]
    refine Ev.neg (by omega) (Ev.bind mk (Ev.bind (same_self hR hC hCS hS hL) (Ev.pos rfl ?_)))
    by_cases ok : 0 ≤ i ∧ 0 ≤ k ∧ i < R ∧ k < C
    · obtain ⟨i0, k0, i1, k1⟩ := ok
      have c1 := cut_ok (r := R) (c := C) (s := S) (d := L) (i := i) (k := k) (P := 1) (Q := 1) ⟨isM hR hC hCS hS hL, i0, k0, by decide, by decide, by omega, by omega⟩
      refine Ev.bind c1 (Ev.neg (by omega) (Ev.neg (by omega) (Ev.neg (by omega) ?_)))
      rw [decide_eq_false (show ¬ k ≥ (C : Int) by omega)]
      exact j5_yes hR hC hCS hS hL i0 k0 i1 k1
    · have c1 := cut_no (r := R) (c := C) (s := S) (d := L) (i := i) (k := k) (p := 1) (q := 1) (by decide) (by decide) (fun h => by
        obtain ⟨_, h1, h2, _, _, h3, h4⟩ := h; omega)
      refine Ev.bind c1 ?_
      by_cases b1 : i < 0
      · exact Ev.pos b1 (j5_no hR hC hCS hS hL i k _ _ _ _)
      · refine Ev.neg b1 ?_
        by_cases b2 : k < 0
        · exact Ev.pos b2 (j5_no hR hC hCS hS hL i k _ _ _ _)
        · refine Ev.neg b2 ?_
          by_cases b3 : i ≥ (R : Int)
          · exact Ev.pos b3 (j5_no hR hC hCS hS hL i k _ _ _ _)
          · refine Ev.neg b3 ?_
            rw [decide_eq_true (show k ≥ (C : Int) by omega)]
            exact j5_no hR hC hCS hS hL i k _ _ _ _
  | succ t ih =>
    intro x h1 h2 D hD
    refine Ev.succ ?_
    simp only [gimballaw09_MatCopies.l3]
    rw [w64 (x := (x : Int) + 1) (by omega) (by omega)]
    exact Ev.pos (by omega) (Ev.pos (by omega) (Ev.pos (by omega) (ih (x + 1) (by omega) (by omega) _ (by rw [List.length_set]; exact hD))))
theorem fill_ev {i k : Int} {n n' : Nat} (hn : n ≤ 100) (hn' : n' ≤ 100) (p q s p' q' s' : Int) {D' : List Int} (hD' : D'.length = n') : ∀ t x : Nat, n - x = t → x ≤ n → ∀ D : List Int, D.length = n →
    Ev (fun K => gimballaw09_MatCopies.l2 K a0 a1 a2 all i k n x R C S L p q s D p' q' s' D') true := by
  intro t
  induction t with
  | zero =>
    intro x h1 h2 D hD
    refine Ev.succ ?_
    simp only [gimballaw09_MatCopies.l2]
    rw [hD']
    exact Ev.neg (by omega) (tail_ev hR hC hCS hS hL mk hD' hn' p' q' s' n' 0 (by omega) (by omega) D' hD')
  | succ t ih =>
    intro x h1 h2 D hD
    refine Ev.succ ?_
    simp only [gimballaw09_MatCopies.l2]
    rw [w64 (x := (x : Int) + 1) (by omega) (by omega)]
    exact Ev.pos (by omega) (Ev.pos (by omega) (Ev.pos (by omega) (ih (x + 1) (by omega) (by omega) _ (by rw [List.length_set]; exact hD))))
theorem l1_ev {i k : Int} {p q s : Int} {D : List Int} {x : Nat} (hx : x < R) {g : Bool}
    (next : Ev (fun K => gimballaw09_MatCopies.l0 K a0 a1 a2 all i k ((x + 1 : Nat) : Int) R C S L p q s D C R R (gat C R (atT R C S L))) g) :
    ∀ t y : Nat, C - y = t → y ≤ C → Ev (fun K => gimballaw09_MatCopies.l1 K a0 a1 a2 all i k x y R C S L p q s D C R R (gat C R (atT R C S L))) g := by
  intro t
  induction t with
  | zero =>
    intro y h1 h2
    refine Ev.succ ?_
    simp only [gimballaw09_MatCopies.l1]
    rw [w64 (x := (x : Int) + 1) (by omega) (by omega)]
    exact Ev.neg (by omega) next
  | succ t ih =>
    intro y h1 h2
    refine Ev.succ ?_
    simp only [gimballaw09_MatCopies.l1]
    rw [w64 (x := (y : Int) + 1) (by omega) (by omega)]
    refine Ev.pos (by omega) (Ev.call (at_eq ⟨by omega, by omega, by omega⟩ _ _ _) (Ev.call (at_eq ⟨by omega, by omega, by omega⟩ _ _ _) (Ev.pos ?_ (ih (y + 1) (by omega) (by omega)))))
    rw [at_gat (by omega) hx]
    rfl
theorem l0_ev {i k : Int} {p q s : Int} {D : List Int} (hD : D.length ≤ 100) : ∀ t x : Nat, R - x = t → x ≤ R →
    Ev (fun K => gimballaw09_MatCopies.l0 K a0 a1 a2 all i k x R C S L p q s D C R R (gat C R (atT R C S L))) true := by
  intro t
  induction t with
  | zero =>
    intro x h1 h2
    refine Ev.succ ?_
    simp only [gimballaw09_MatCopies.l0]
    have hCR : C * R ≤ 49 := Nat.mul_le_mul hC hR
    exact Ev.neg (by omega) (fill_ev hR hC hCS hS hL mk hD (n' := C * R) (by omega) p q s C R R (by rw [gat_length]) D.length 0 (by omega) (by omega) D rfl)
  | succ t ih =>
    intro x h1 h2
    refine Ev.succ ?_
    simp only [gimballaw09_MatCopies.l0]
    exact Ev.pos (by omega) (l1_ev hR hC hCS hS hL mk (by omega) (ih (x + 1) (by omega) (by omega)) C 0 (by omega) (by omega))
end
theorem MatCopies : gimballaw09_MatCopies.Pure := by
  intro a0 a1 a2 l3 a4 a5 w0 w1 w2 _ _ wl w4 w5
  apply Ev.rounds
  unfold gimballaw09_MatCopies.f
  refine Ev.bind head_ev (Ev.pos rfl ?_)
  by_cases hl : (l3.length : Int) > 100
  · exact Ev.pos hl (Ev.now _)
  · refine Ev.neg hl ?_
    have hU : ∀ x ∈ l3, U x := fun x hx => U_wf (wl x hx)
    obtain ⟨R, C, S, L, ev, hR, hC, hCS, hS, hL, eR, eC⟩ := made_ev a0 a1 a2 hU
    have smM : Sm R C S := ⟨by omega, by omega, by omega⟩
    have smC : Sm R C C := ⟨by omega, by omega, by omega⟩
    have smT : Sm C R R := ⟨by omega, by omega, by omega⟩
    have e1 := clone_ev (R := R) (C := C) (by omega) (by omega) (s := S) (by omega) L
    have e2 := turn_ev (R := R) (C := C) (by omega) (by omega) (s := S) (by omega) L
    have e3 := Gim.same_ev (r' := R) (c' := C) (s' := S) smC smM (gat R C (atN R C S L)) L
    rw [decide_eq_true ⟨rfl, rfl, fun i hi k hk => by rw [at_gat hi hk]; rfl⟩] at e3
    have e4 := check_dense (R := R) (C := C) (by omega) (by omega) (d := gat R C (atN R C S L)) gat_length
    have e5 := check_dense (R := C) (C := R) (by omega) (by omega) (d := gat C R (atT R C S L)) gat_length
    have e6 := turn_ev (R := C) (C := R) (by omega) (by omega) (s := R) (by omega) (gat C R (atT R C S L))
    have e7 := Gim.same_ev (r' := R) (c' := C) (s' := S) smC smM (gat R C (atT C R R (gat C R (atT R C S L)))) L
    rw [decide_eq_true ⟨rfl, rfl, fun i hi k hk => by
      rw [at_gat hi hk]
      show at4 C R R (gat C R (atT R C S L)) k i = _
      rw [at_gat hk hi]; rfl⟩] at e7
    have hRC : R * C ≤ 49 := Nat.mul_le_mul hR hC
    refine Ev.bind ev (Ev.bind e1 (Ev.bind e2 (Ev.bind e3 (Ev.pos rfl (Ev.pos rfl (Ev.bind e4 (Ev.pos rfl (Ev.bind e5 (Ev.pos rfl (Ev.pos rfl (Ev.pos rfl (Ev.bind e6 (Ev.bind e7 (Ev.succ ?_))))))))))))))
    simp only [gimballaw09_MatCopies.j0]
    exact Ev.neg (by decide) (l0_ev hR hC hCS hS hL ev (by rw [gat_length]; omega) R 0 (by omega) (by omega))
end Go.Proofs.Ytenegelkbfmjkaa.Pure
