/- The matrices of layer 9's statements. -/
import Derived.Test.YtenegelkbfmjkaaDoorTMat
import Derived.Test.YtenegelkbfmjkaaDoorFx12
namespace Gim
open Go Go.RowKit Go.Proofs.YtenegelkbfmjkaaDoorW.PrintWords Go.Proofs.YtenegelkbfmjkaaDoorW.PrintLast Go.Proofs.YtenegelkbfmjkaaDoorW.PrintMore Go.Proofs.YtenegelkbfmjkaaDoor.F
set_option linter.unusedVariables false

theorem and7 (x : Int) : Go.bits .and .i64 x 7 = x % 8 := i64_and 3 (by decide) x
theorem and3 (x : Int) : Go.bits .and .i64 x 3 = x % 4 := i64_and 2 (by decide) x
/-- A list of so many words. -/
def Words (n : Nat) (d : List Int) : Prop := d.length = n ∧ ∀ x ∈ d, U x
theorem Words.set {n : Nat} {d : List Int} (h : Words n d) (i : Nat) {v : Int} (hv : U v) : Words n (d.set i v) := by
  refine ⟨by rw [List.length_set]; exact h.1, fun x hx => ?_⟩
  rcases List.mem_or_eq_of_mem_set hx with hx | hx
  · exact h.2 x hx
  · rw [hx]; exact hv
theorem Words.set4 {n : Nat} {d : List Int} (h : Words n d) (r c s i k : Int) {v : Int} (hv : U v) : Words n (set4 r c s d i k v) := by
  unfold Gim.set4
  split
  · exact h.set _ hv
  · exact h
theorem Words.zeros (n : Nat) : Words n (List.replicate n 0) := ⟨List.length_replicate, fun x hx => by rw [(List.mem_replicate.mp hx).2]; exact ⟨by decide, by decide⟩⟩
theorem U_quiet : U 9221120237041090560 := ⟨by decide, by decide⟩
theorem U_zero : U 0 := ⟨by decide, by decide⟩

theorem made_l2 {R C S n : Nat} (hR : R ≤ 7) (hC : C ≤ 7) (hS : S ≤ 10) {all : List Int} (ha : ∀ x ∈ all, U x) {i : Nat} (hi : i < R)
    (hk : ∀ d, Words n d → ∃ L, Words n L ∧ Ev (fun K => gimballaw09_Made.l1 K R C all ((i : Int) + 1) R C S d) ((R : Int), (C : Int), (S : Int), L)) :
    ∀ m k : Nat, C - k = m → k ≤ C → ∀ d, Words n d → ∃ L, Words n L ∧ Ev (fun K => gimballaw09_Made.l2 K R C all i k R C S d) ((R : Int), (C : Int), (S : Int), L) := by
  intro m
  induction m with
  | zero =>
    intro k e1 e2 d hd
    obtain rfl : k = C := by omega
    obtain ⟨L, hL, ev⟩ := hk d hd
    refine ⟨L, hL, Ev.succ ?_⟩
    simp only [gimballaw09_Made.l2]
    refine Ev.neg (by omega) ?_
    rw [w64 (by omega) (by omega)]
    exact ev
  | succ m ih =>
    intro k e1 e2 d hd
    have hsm : Sm R C S := ⟨by omega, by omega, by omega⟩
    by_cases h0 : (all.length : Int) > 0
    · obtain ⟨b0, b1⟩ := mul_bound (a := (i : Int)) (b := (C : Int)) (m := 7) (n := 7) (by omega) (by omega) (by omega) (by omega)
      have e : Int.tmod (wrap64 (wrap64 ((i : Int) * (C : Int)) + (k : Int))) (all.length : Int) = ((i : Int) * (C : Int) + (k : Int)) % (all.length : Int) := by
        rw [w64 (x := (i : Int) * (C : Int)) (by omega) (by omega), w64 (by omega) (by omega), Int.tmod_eq_emod_of_nonneg (by omega)]
      have g0 := Int.emod_nonneg ((i : Int) * (C : Int) + (k : Int)) (show (all.length : Int) ≠ 0 by omega)
      have g1 := Int.emod_lt_of_pos ((i : Int) * (C : Int) + (k : Int)) h0
      obtain ⟨L, hL, ev⟩ := ih (k + 1) (by omega) (by omega) _ (hd.set4 R C S i k (ha _ (rd_mem g0 g1)))
      refine ⟨L, hL, Ev.succ ?_⟩
      simp only [gimballaw09_Made.l2]
      refine Ev.pos (by omega) (Ev.pos h0 (Ev.neg (by omega) ?_))
      rw [e]
      refine Ev.pos g0 (Ev.pos g1 (Ev.call (set_eq hsm d i k _) ?_))
      rw [w64 (x := (k : Int) + 1) (by omega) (by omega)]
      exact ev
    · obtain ⟨L, hL, ev⟩ := ih (k + 1) (by omega) (by omega) _ (hd.set4 R C S i k U_zero)
      refine ⟨L, hL, Ev.succ ?_⟩
      simp only [gimballaw09_Made.l2]
      refine Ev.pos (by omega) (Ev.neg h0 (Ev.call (set_eq hsm d i k _) ?_))
      rw [w64 (x := (k : Int) + 1) (by omega) (by omega)]
      exact ev
theorem made_l1 {R C S n : Nat} (hR : R ≤ 7) (hC : C ≤ 7) (hS : S ≤ 10) {all : List Int} (ha : ∀ x ∈ all, U x) :
    ∀ m i : Nat, R - i = m → i ≤ R → ∀ d, Words n d → ∃ L, Words n L ∧ Ev (fun K => gimballaw09_Made.l1 K R C all i R C S d) ((R : Int), (C : Int), (S : Int), L) := by
  intro m
  induction m with
  | zero =>
    intro i e1 e2 d hd
    refine ⟨d, hd, Ev.succ ?_⟩
    simp only [gimballaw09_Made.l1]
    exact Ev.neg (by omega) (Ev.now _)
  | succ m ih =>
    intro i e1 e2 d hd
    obtain ⟨L, hL, ev⟩ := made_l2 hR hC hS ha (i := i) (by omega) (fun d hd => ih (i + 1) (by omega) (by omega) d hd) C 0 (by omega) (by omega) d hd
    refine ⟨L, hL, Ev.succ ?_⟩
    simp only [gimballaw09_Made.l1]
    exact Ev.pos (by omega) ev
theorem made_l0 {R C S n : Nat} (hR : R ≤ 7) (hC : C ≤ 7) (hS : S ≤ 10) (hn : n ≤ 70) {all : List Int} (ha : ∀ x ∈ all, U x) :
    ∀ m i : Nat, n - i = m → i ≤ n → ∀ d, Words n d → ∃ L, Words n L ∧ Ev (fun K => gimballaw09_Made.l0 K R C all n i R C S d) ((R : Int), (C : Int), (S : Int), L) := by
  intro m
  induction m with
  | zero =>
    intro i e1 e2 d hd
    obtain ⟨L, hL, ev⟩ := made_l1 hR hC hS ha R 0 (by omega) (by omega) d hd
    refine ⟨L, hL, Ev.succ ?_⟩
    simp only [gimballaw09_Made.l0]
    exact Ev.neg (by omega) ev
  | succ m ih =>
    intro i e1 e2 d hd
    obtain ⟨L, hL, ev⟩ := ih (i + 1) (by omega) (by omega) _ (hd.set i U_quiet)
    have hl := hd.1
    refine ⟨L, hL, Ev.succ ?_⟩
    simp only [gimballaw09_Made.l0]
    refine Ev.pos (by omega) (Ev.pos (by omega) (Ev.pos (by omega) ?_))
    rw [w64 (by omega) (by omega), Int.toNat_natCast]
    exact ev
/-- Made: a matrix of at most seven rows and columns. -/
theorem made_ev (a0 a1 a2 : Int) {all : List Int} (ha : ∀ x ∈ all, U x) :
    ∃ (R C S : Nat) (L : List Int), Ev (fun K => gimballaw09_Made.f K a0 a1 a2 all) ((R : Int), (C : Int), (S : Int), L) ∧ R ≤ 7 ∧ C ≤ 7 ∧ C ≤ S ∧ S ≤ 10 ∧ Words (R * S) L ∧ (R : Int) = a0 % 8 ∧ (C : Int) = a1 % 8 := by
  obtain ⟨R, hR⟩ : ∃ R : Nat, (R : Int) = a0 % 8 := ⟨(a0 % 8).toNat, by omega⟩
  obtain ⟨C, hC⟩ : ∃ C : Nat, (C : Int) = a1 % 8 := ⟨(a1 % 8).toNat, by omega⟩
  obtain ⟨g, hg⟩ : ∃ g : Nat, (g : Int) = a2 % 4 := ⟨(a2 % 4).toNat, by omega⟩
  have hm : R * (C + g) ≤ 7 * 10 := Nat.mul_le_mul (by omega) (by omega)
  obtain ⟨L, hL, ev⟩ := made_l0 (R := R) (C := C) (S := C + g) (n := R * (C + g)) (by omega) (by omega) (by omega) (by omega) ha (R * (C + g)) 0 (by omega) (by omega) _ (Words.zeros _)
  refine ⟨R, C, C + g, L, ?_, by omega, by omega, by omega, by omega, hL, hR, hC⟩
  unfold gimballaw09_Made.f
  have e1 : wrap64 ((C : Int) + (g : Int)) = ((C + g : Nat) : Int) := by rw [w64 (by omega) (by omega)]; omega
  have e2 : wrap64 ((R : Int) * ((C + g : Nat) : Int)) = ((R * (C + g) : Nat) : Int) := by rw [← Int.natCast_mul]; exact w64 (by omega) (by omega)
  have p1 : 0 ≤ ((R * (C + g) : Nat) : Int) := Int.natCast_nonneg _
  have p2 : ((R * (C + g) : Nat) : Int).toNat ≤ 35184372088832 := by rw [Int.toNat_natCast]; exact Nat.le_trans hm (by decide)
  rw [and7, and7, and3, ← hR, ← hC, ← hg, e1, e2]
  refine Ev.pos p1 (Ev.pos p2 (Ev.call rfl ?_))
  rw [List.length_replicate]
  exact ev
end Gim
