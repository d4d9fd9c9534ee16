/- BalApart: what isn't apart has no row, and no column, of zeros but for the diagonal; for every input. -/
import Derived.Test.YtlhpejbmjbcmaaaTx0
import Derived.Test.YtlhpejbmjbcmaaaRx0
set_option linter.constructorNameAsVariable false
set_option linter.unusedSimpArgs false
set_option linter.unusedVariables false
set_option linter.unusedSectionVars false
namespace Go.Proofs.Ytlhpejbmjbcmaaa.Pure
open Gim Go Go.RowKit Go.Proofs.Ytlhpejbmjbcmaaa.F Go.Proofs.YtlhpejbmjbcmaaaW.PrintWords Go.Proofs.YtlhpejbmjbcmaaaW.PrintLast
set_option linter.unusedVariables false
set_option linter.unusedSectionVars false

theorem and7_nat (x : Int) : ∃ n : Nat, Go.bits .and .i64 x 7 = (n : Int) ∧ n ≤ 7 := by
  rw [and7]
  exact ⟨(x % 8).toNat, by omega, by omega⟩
theorem W1 (x : Nat) (hx : x ≤ 1000) : wrap64 ((x : Int) + 1) = ((x + 1 : Nat) : Int) := by rw [w64 (by omega) (by omega)]; rfl
section
variable {n : Nat} (hn : n ≤ 7) {m A : Nat → Nat → Int} {p : Nat → Nat} {w : Nat → Int} {lo hi : Nat} (h : LS n m A p w lo hi)
include hn h
theorem l1_ev {i : Nat} (h1 : lo ≤ i) (h2 : i < hi) (next : Ev (fun K => gimballaw16_BalApart.l0 K ((i : Int) + 1) n n n lo hi (gat n n A)) true) :
    ∀ t k : Nat, hi - k = t → lo ≤ k → k ≤ hi → ∀ r c : Nat, r ≤ k → c ≤ k → (r = 0 → LoneA A i lo k false) → (c = 0 → LoneA A i lo k true) →
      Ev (fun K => gimballaw16_BalApart.l1 K i r c k n n n lo hi (gat n n A)) true := by
  have hin := h.hin
  have wa : ∀ x y, word_Abs.f (A x y) = some (mag (A x y)) := fun x y => word_Abs_eq (h.u x y)
  intro t
  induction t with
  | zero =>
    intro k e1 e2 e3 r c _ _ hr hc
    obtain rfl : k = hi := by omega
    have r0 : ¬ (r : Int) = 0 := fun e => h.nr i h1 h2 (hr (by omega))
    have c0 : ¬ (c : Int) = 0 := fun e => h.nc i h1 h2 (hc (by omega))
    refine Ev.succ ?_
    simp only [gimballaw16_BalApart.l1]
    rw [w64 (x := (i : Int) + 1) (by omega) (by omega)]
    exact Ev.neg (by omega) (Ev.neg r0 (Ev.neg c0 next))
  | succ t ih =>
    intro k e1 e2 e3 r c hrk hck hr hc
    have sm : Sm n n n := Sm.nat (by omega) (by omega)
    have hk : k < n := by omega
    have hi1 : i < n := by omega
    by_cases e : k = i
    · subst e
      have hh := ih (k + 1) (by omega) (by omega) (by omega) r c (by omega) (by omega) (fun z j a b d => hr z j a (by omega) d) (fun z j a b d => hc z j a (by omega) d)
      refine Ev.succ ?_
      simp only [gimballaw16_BalApart.l1]
      refine Ev.pos (by omega) (Ev.pos trivial (Ev.succ ?_))
      simp only [gimballaw16_BalApart.j2]
      refine Ev.neg (by decide) (Ev.succ ?_)
      simp only [gimballaw16_BalApart.j3]
      rw [W1 k (by omega)]
      exact Ev.pos trivial hh
    · have third : ∀ r' : Nat, r' ≤ k + 1 → (r' = 0 → LoneA A i lo (k + 1) false) → Ev (fun K => gimballaw16_BalApart.j3 K i r' c k n n n lo hi (gat n n A)) true := by
        intro r' hr' hz
        refine Ev.succ ?_
        simp only [gimballaw16_BalApart.j3]
        rw [W1 k (by omega), W1 c (by omega)]
        refine Ev.neg (by omega) (Ev.call (at_eq sm _ _ _) ?_)
        rw [at_gat hk hi1]
        refine Ev.call (wa k i) ?_
        by_cases z : mag (A k i) = 0
        · refine Ev.pos z (ih (k + 1) (by omega) (by omega) (by omega) r' c (by omega) (by omega) hz (fun z2 j a b d => ?_))
          by_cases ej : j = k
          · subst ej; rw [if_pos rfl]; exact z
          · exact hc z2 j a (by omega) d
        · exact Ev.neg z (ih (k + 1) (by omega) (by omega) (by omega) r' (c + 1) (by omega) (by omega) hz (fun z2 => by omega))
      refine Ev.succ ?_
      simp only [gimballaw16_BalApart.l1]
      refine Ev.pos (by omega) (Ev.neg (by omega) (Ev.call (at_eq sm _ _ _) ?_))
      rw [at_gat hi1 hk]
      refine Ev.call (wa i k) ?_
      by_cases z : mag (A i k) = 0
      · have e2 : (mag (A i k) != 0) = false := by rw [z]; rfl
        rw [e2]
        refine Ev.succ ?_
        simp only [gimballaw16_BalApart.j2]
        refine Ev.neg (by decide) (third r (by omega) (fun z2 j a b d => ?_))
        by_cases ej : j = k
        · subst ej; rw [if_neg (by decide)]; exact z
        · exact hr z2 j a (by omega) d
      · have e2 : (mag (A i k) != 0) = true := bne_iff_ne.mpr z
        rw [e2]
        refine Ev.succ ?_
        simp only [gimballaw16_BalApart.j2]
        rw [W1 r (by omega)]
        exact Ev.pos trivial (third (r + 1) (by omega) (fun z2 => by omega))
theorem l0_ev : ∀ t i : Nat, hi - i = t → lo ≤ i → i ≤ hi → Ev (fun K => gimballaw16_BalApart.l0 K i n n n lo hi (gat n n A)) true := by
  intro t
  induction t with
  | zero =>
    intro i e1 e2 e3
    refine Ev.succ ?_
    simp only [gimballaw16_BalApart.l0]
    exact Ev.neg (by omega) (Ev.now _)
  | succ t ih =>
    intro i e1 e2 e3
    have hlh := h.lohi
    refine Ev.succ ?_
    simp only [gimballaw16_BalApart.l0]
    exact Ev.pos (by omega) (l1_ev hn h e2 (by omega) (ih (i + 1) (by omega) (by omega) (by omega)) (hi - lo) lo rfl (Nat.le_refl _) hlh 0 0 (by omega) (by omega) (fun _ j a b => by omega) (fun _ j a b => by omega))
end
theorem BalApart (a0 : Int) (w0 : (Lit.int .i64 a0).wf = true) (all : List Int) (w1 : ∀ x ∈ all, (Lit.int .u64 x).wf = true) (a2 : Int) (w2 : (Lit.int .u64 a2).wf = true) : ∃ k, gimballaw16_BalApart.f k a0 all a2 = some true := by
  have ha : ∀ x ∈ all, U x := fun x hx => U_of_wf (w1 x hx)
  apply Ev.rounds
  unfold gimballaw16_BalApart.f
  refine Ev.call rfl ?_
  by_cases hl : (all.length : Int) > 100
  · exact Ev.pos hl (Ev.now _)
  refine Ev.neg hl ?_
  obtain ⟨n, en, hn⟩ := and7_nat a0
  rw [en]
  obtain ⟨d, wd, ed⟩ := made16_ev (n := n) (by omega) ha (by omega) (holes := a2)
  refine Ev.bind ed ?_
  by_cases ff : ∀ i k : Nat, i < n → k < n → fin (at4 n n n d i k)
  · obtain ⟨A, p, w, lo, hi, h, ev⟩ := bal_ev (n := n) (by omega) wd.2 wd.1 ff
    exact Ev.bind ev (Ev.pos rfl (l0_ev hn h (hi - lo) lo rfl (Nat.le_refl _) h.lohi))
  · exact Ev.bind (bal_no (n := n) (by omega) wd.2 wd.1 ff) (Ev.neg (by decide) (Ev.now _))
end Go.Proofs.Ytlhpejbmjbcmaaa.Pure
