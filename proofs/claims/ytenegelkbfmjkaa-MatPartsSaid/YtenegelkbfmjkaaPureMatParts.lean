/- MatParts: what is cut out of what is cut out of a matrix is cut out at once, and turned its rows are its columns; for every matrix that the statement makes. -/
import Derived.Test.YtenegelkbfmjkaaTCut
import Derived.Test.YtenegelkbfmjkaaTTurn
import Derived.Test.YtenegelkbfmjkaaTSame
import Derived.Test.YtenegelkbfmjkaaTMade
import Derived.Test.YtenegelkbfmjkaaFx5
import Derived.Test.YtenegelkbfmjkaaFx13
namespace Go.Proofs.Ytenegelkbfmjkaa.Pure
open Gim Go.RowKit Go.Proofs.Ytenegelkbfmjkaa.F Go.Proofs.YtenegelkbfmjkaaW.PrintWords Go.Proofs.YtenegelkbfmjkaaW.PrintLast
set_option linter.unusedVariables false

theorem head_ok : gimballaw09_head.f 200 = some true := by decide +kernel
theorem head_ev : Ev (fun k => gimballaw09_head.f k) true := Ev.of (fun k => gimballaw09_head.mono k) head_ok

theorem j0_no {x y : Int} (h : x = y) (hx : x ≠ 0) (a b c : Int) (d : List Int) (a' b' c' : Int) (d' : List Int) : Ev (fun k => gimballaw09_MatParts.j0 k x y false a b c d a' b' c' d') true := by
  refine Ev.succ ?_
  simp only [gimballaw09_MatParts.j0]
  exact Ev.neg (by decide) (Ev.pos h (Ev.neg hx (Ev.now _)))
theorem one_at {r c s : Int} {d : List Int} (i k : Int) : at4 ((1 : Nat) : Int) ((1 : Nat) : Int) ((1 : Nat) : Int) (gat 1 1 (atC r c s d i k)) ((0 : Nat) : Int) ((0 : Nat) : Int) = at4 r c s d i k := by
  rw [at_gat (by decide) (by decide)]
  unfold atC
  simp
theorem MatParts : gimballaw09_MatParts.Pure := by
  intro a0 a1 a2 l3 a4 a5 a6 a7 w0 w1 w2 _ _ wl w4 w5 w6 w7
  apply Ev.rounds
  unfold gimballaw09_MatParts.f
  refine Ev.bind head_ev (Ev.pos rfl ?_)
  by_cases hl : (l3.length : Int) > 100
  · exact Ev.pos hl (Ev.now _)
  · refine Ev.neg hl ?_
    have hU : ∀ x ∈ l3, U x := fun x hx => U_wf (wl x hx)
    obtain ⟨R, C, S, L, ev, hR, hC, hCS, hS, hL, eR, eC⟩ := made_ev a0 a1 a2 hU
    refine Ev.bind ev ?_
    obtain ⟨i, hi⟩ : ∃ i : Nat, (i : Int) = a4 % 4 := ⟨(a4 % 4).toNat, by omega⟩
    obtain ⟨k, hk⟩ : ∃ i : Nat, (i : Int) = a5 % 4 := ⟨(a5 % 4).toNat, by omega⟩
    obtain ⟨p, hp⟩ : ∃ i : Nat, (i : Int) = a6 % 4 := ⟨(a6 % 4).toNat, by omega⟩
    obtain ⟨q, hq⟩ : ∃ i : Nat, (i : Int) = a7 % 4 := ⟨(a7 % 4).toNat, by omega⟩
    dsimp only
    rw [and3, and3, and3, and3, ← hi, ← hk, ← hp, ← hq, w64 (x := (R : Int) - (i : Int)) (by omega) (by omega), w64 (x := (C : Int) - (k : Int)) (by omega) (by omega), w64 (x := (i : Int) + (p : Int)) (by omega) (by omega), w64 (x := (k : Int) + (q : Int)) (by omega) (by omega)]
    have hm : isMat R C S L := by
      refine ⟨by unfold badSize; omega, ?_⟩
      by_cases h0 : R = 0
      · left; omega
      · right; right
        obtain ⟨n, rfl⟩ : ∃ n, R = n + 1 := ⟨R - 1, by omega⟩
        rw [hL.1]
        have e : ((n + 1 : Nat) : Int) - 1 = (n : Int) := by omega
        have e2 : n * S + S = (n + 1) * S := row_end
        rw [e, ← Int.natCast_mul, ← Int.natCast_add]; omega
    by_cases hok : i ≤ R ∧ k ≤ C
    · obtain ⟨hiR, hkC⟩ := hok
      obtain ⟨P, hP⟩ : ∃ P : Nat, R = i + P := ⟨R - i, by omega⟩
      obtain ⟨Q, hQ⟩ : ∃ Q : Nat, C = k + Q := ⟨C - k, by omega⟩
      have eP : (R : Int) - (i : Int) = (P : Int) := by omega
      have eQ : (C : Int) - (k : Int) = (Q : Int) := by omega
      rw [eP, eQ]
      refine Ev.bind (cut_ok (d := L) (r := (R : Int)) (c := (C : Int)) (s := (S : Int)) (i := (i : Int)) (k := (k : Int)) (P := P) (Q := Q) ⟨hm, by omega, by omega, by omega, by omega, by omega, by omega⟩) ?_
      dsimp only
      have hT := turn_ev (R := R) (C := C) (s := (S : Int)) (by omega) (by omega) (by omega) L
      have hTm : isMat C R R (gat C R (atT R C S L)) := isMat_dense (by omega) (by omega) gat_length
      have hTC := cut_ok (d := gat C R (atT R C S L)) (r := (C : Int)) (c := (R : Int)) (s := (R : Int)) (i := (k : Int)) (k := (i : Int)) (P := Q) (Q := P) ⟨hTm, by omega, by omega, by omega, by omega, by omega, by omega⟩
      have hTT := turn_ev (R := Q) (C := P) (s := (P : Int)) (by omega) (by omega) (by omega) (gat Q P (atC C R R (gat C R (atT R C S L)) k i))
      have hsame := same_ev (R := P) (C := Q) (r' := (P : Int)) (c' := (Q : Int)) (s := (Q : Int)) (s' := (Q : Int)) (Sm.nat (by omega) (by omega)) (Sm.nat (by omega) (by omega)) (gat P Q (atT Q P P (gat Q P (atC C R R (gat C R (atT R C S L)) k i)))) (gat P Q (atC R C S L i k))
      rw [decide_eq_true (show (P : Int) = (P : Int) ∧ (Q : Int) = (Q : Int) ∧ sameAt P Q Q (gat P Q (atT Q P P (gat Q P (atC C R R (gat C R (atT R C S L)) k i)))) P Q Q (gat P Q (atC R C S L i k)) from ⟨rfl, rfl, fun x hx y hy => by
        rw [at_gat hx hy, at_gat hx hy]
        show at4 (Q : Int) (P : Int) (P : Int) _ (y : Int) (x : Int) = _
        rw [at_gat hy hx]
        show at4 (C : Int) (R : Int) (R : Int) _ ((k : Int) + (y : Int)) ((i : Int) + (x : Int)) = at4 (R : Int) (C : Int) (S : Int) L ((i : Int) + (x : Int)) ((k : Int) + (y : Int))
        rw [← Int.natCast_add, ← Int.natCast_add, at_gat (by omega) (by omega)]
        rfl⟩)] at hsame
      by_cases hpq : p < P ∧ q < Q
      · obtain ⟨h1, h2⟩ := hpq
        have hb := cut_ok (d := gat P Q (atC R C S L i k)) (r := (P : Int)) (c := (Q : Int)) (s := (Q : Int)) (i := (p : Int)) (k := (q : Int)) (P := 1) (Q := 1) ⟨isMat_dense (by omega) (by omega) gat_length, by omega, by omega, by omega, by omega, by omega, by omega⟩
        have hc := cut_ok (d := L) (r := (R : Int)) (c := (C : Int)) (s := (S : Int)) (i := (i : Int) + (p : Int)) (k := (k : Int) + (q : Int)) (P := 1) (Q := 1) ⟨hm, by omega, by omega, by omega, by omega, by omega, by omega⟩
        refine Ev.bind hb (Ev.bind hc (Ev.pos rfl (Ev.bind hT (Ev.bind hTC (Ev.pos rfl (Ev.bind hTT (Ev.bind hsame ?_)))))))
        refine Ev.succ ?_
        simp only [gimballaw09_MatParts.j0]
        refine Ev.neg (by decide) (Ev.pos trivial (Ev.pos trivial ?_))
        have hs2 := same_ev (R := 1) (C := 1) (r' := ((1 : Nat) : Int)) (c' := ((1 : Nat) : Int)) (s := ((1 : Nat) : Int)) (s' := ((1 : Nat) : Int)) (Sm.nat (by omega) (by omega)) (Sm.nat (by omega) (by omega)) (gat 1 1 (atC P Q Q (gat P Q (atC R C S L i k)) p q)) (gat 1 1 (atC R C S L ((i : Int) + p) ((k : Int) + q)))
        rw [decide_eq_true (show _ ∧ _ ∧ sameAt 1 1 ((1 : Nat) : Int) (gat 1 1 (atC P Q Q (gat P Q (atC R C S L i k)) p q)) ((1 : Nat) : Int) ((1 : Nat) : Int) ((1 : Nat) : Int) (gat 1 1 (atC R C S L ((i : Int) + p) ((k : Int) + q))) from ⟨rfl, rfl, fun x hx y hy => by
          obtain rfl : x = 0 := by omega
          obtain rfl : y = 0 := by omega
          rw [one_at, one_at, at_gat h1 h2]; rfl⟩)] at hs2
        exact Ev.bind hs2 (Ev.now _)
      · have hb := cut_no (d := gat P Q (atC R C S L i k)) (r := (P : Int)) (c := (Q : Int)) (s := (Q : Int)) (i := (p : Int)) (k := (q : Int)) (p := 1) (q := 1) (by decide) (by decide) (fun hh => by have := hh.2; omega)
        have hc := cut_no (d := L) (r := (R : Int)) (c := (C : Int)) (s := (S : Int)) (i := (i : Int) + (p : Int)) (k := (k : Int) + (q : Int)) (p := 1) (q := 1) (by decide) (by decide) (fun hh => by have := hh.2; omega)
        refine Ev.bind hb (Ev.bind hc (Ev.pos rfl (Ev.bind hT (Ev.bind hTC (Ev.pos rfl (Ev.bind hTT (Ev.bind hsame ?_)))))))
        exact j0_no rfl (by decide) _ _ _ _ _ _ _ _
    · refine Ev.bind (cut_no (d := L) (r := (R : Int)) (c := (C : Int)) (s := (S : Int)) (i := (i : Int)) (k := (k : Int)) (by omega) (by omega) (fun hh => by have := hh.2; omega)) ?_
      dsimp only
      have hb := cut_no (d := []) (r := 0) (c := 0) (s := 0) (i := (p : Int)) (k := (q : Int)) (p := 1) (q := 1) (by decide) (by decide) (fun hh => by have := hh.2; omega)
      have hc : ∃ ρ, Ev (fun K => mat_Matrix_Cut.f K R C S L ((i : Int) + p) ((k : Int) + q) 1 1) ρ := by
        by_cases h : cutOk R C S L ((i : Int) + p) ((k : Int) + q) ((1 : Nat) : Int) ((1 : Nat) : Int)
        · exact ⟨_, cut_ok h⟩
        · exact ⟨_, cut_no (by decide) (by decide) h⟩
      obtain ⟨ρ, hc⟩ := hc
      refine Ev.bind hb (Ev.bind hc (Ev.neg (by decide) ?_))
      by_cases h : (i : Int) > (R : Int)
      · exact Ev.pos h (Ev.now _)
      · refine Ev.neg h ?_
        rw [decide_eq_true (by omega)]
        exact Ev.now _
end Go.Proofs.Ytenegelkbfmjkaa.Pure
