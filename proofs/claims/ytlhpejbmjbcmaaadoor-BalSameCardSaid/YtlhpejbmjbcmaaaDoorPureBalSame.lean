/- BalSame: any matrix, balanced, is itself, in another order and scaled, exactly; for every input. -/
import Derived.Test.YtlhpejbmjbcmaaaDoorTx0
import Derived.Test.YtlhpejbmjbcmaaaDoorRx0
set_option linter.constructorNameAsVariable false
set_option linter.unusedSimpArgs false
set_option linter.unusedVariables false
set_option linter.unusedSectionVars false
namespace Go.Proofs.YtlhpejbmjbcmaaaDoor.Pure
open Gim Go Go.RowKit Go.Proofs.YtlhpejbmjbcmaaaDoor.F Go.Proofs.YtlhpejbmjbcmaaaDoorW.PrintWords Go.Proofs.YtlhpejbmjbcmaaaDoorW.PrintLast
set_option linter.unusedVariables false
set_option linter.unusedSectionVars false

/-- What is no square isn't balanced. -/
theorem no_rows {n c s : Int} {d : List Int} (h : n < 0) : Ev (fun K => bal_Of.f K n c s d) (0, 0, 0, [], [], [], 0, 0, 4) := by
  unfold bal_Of.f
  have hc := check_ev n c s d
  rw [if_neg (fun hm => hm.1 (.inl h))] at hc
  refine Ev.bind hc (Ev.neg (by decide) (Ev.succ ?_))
  simp only [bal_Of.j0]
  exact Ev.pos trivial (Ev.now _)
theorem no_square : Ev (fun K => bal_Of.f K 2 3 3 (List.replicate (2 * 3) 0)) (0, 0, 0, [], [], [], 0, 0, 4) := by
  unfold bal_Of.f
  refine Ev.bind (check_dense (R := 2) (C := 3) (by decide) (by decide) (by decide)) (Ev.pos rfl (Ev.succ ?_))
  simp only [bal_Of.j0]
  exact Ev.pos (by decide) (Ev.now _)
section
variable {n : Nat} (hn : n ≤ 7) {d : List Int} (wd : Words (n * n) d) (ff : ∀ i k : Nat, i < n → k < n → fin (at4 n n n d i k)) {A : Nat → Nat → Int} {p : Nat → Nat} {w : Nat → Int} {lo hi : Nat} (h : LS n (fun i k => at4 n n n d i k) A p w lo hi)
include hn wd ff h
theorem l2_ev {i : Nat} (hi1 : i < n) (next : Ev (fun K => gimballaw16_BalSame.l1 K n ((i : Int) + 1) n n n n n n lo hi d (gat n n A) (cnt n (fun x => (p x : Int))) (cnt n w)) true) :
    ∀ t k : Nat, n - k = t → k ≤ n → Ev (fun K => gimballaw16_BalSame.l2 K n i k n n n n n n lo hi d (gat n n A) (cnt n (fun x => (p x : Int))) (cnt n w)) true := by
  have wa : ∀ x y, word_Abs.f (A x y) = some (mag (A x y)) := fun x y => word_Abs_eq (h.u x y)
  have l1 := cnt_len n w
  have l2 := cnt_len n (fun x => (p x : Int))
  intro t
  induction t with
  | zero =>
    intro k e1 e2
    refine Ev.succ ?_
    simp only [gimballaw16_BalSame.l2]
    rw [w64 (x := (i : Int) + 1) (by omega) (by omega)]
    exact Ev.neg (by omega) next
  | succ t ih =>
    intro k e1 e2
    have hk : k < n := by omega
    have hh := ih (k + 1) (by omega) (by omega)
    have sm : Sm n n n := Sm.nat (by omega) (by omega)
    have pi := h.plt i hi1
    have pk := h.plt k hk
    have bi := h.wb i hi1
    have bk := h.wb k hk
    obtain ⟨a1, a2, a3, ea, na⟩ := exact16_ev (at_U wd.2 (r := n) (c := n) (s := n) (p i : Int) (p k : Int)) (ff _ _ pi pk)
    obtain ⟨b1, b2, b3, eb, nb⟩ := exact16_ev (h.u i k) (h.f i k hi1 hk)
    obtain ⟨t0, nt⟩ := two_ev (E := 400) (a := w k - w i) (by omega) (by omega) (by omega) (by omega)
    obtain ⟨m1, m2, m3, em, nm⟩ := num_mul_ev (by decide) (by decide) (by decide) (by decide) na nt
    have es := same_ev (by decide) (by decide) nb nm
    rw [decide_eq_true (h.eq i k hi1 hk)] at es
    have last_ : Ev (fun K => gimballaw16_BalSame.j4 K n i k false n n n n n n lo hi d (gat n n A) (cnt n (fun x => (p x : Int))) (cnt n w)) true := by
      refine Ev.succ ?_
      simp only [gimballaw16_BalSame.j4]
      rw [W1 k (by omega)]
      refine Ev.neg (by decide) (Ev.call (at_eq sm _ _ _) ?_)
      rw [at_gat hi1 hk]
      refine Ev.call (wa i k) ?_
      by_cases z : mag (A i k) = 0
      · exact Ev.pos z hh
      · refine Ev.neg z ?_
        by_cases c1 : (i : Int) ≥ (hi : Int)
        · refine Ev.pos c1 (Ev.neg (fun c => z (h.ap1 i k hi1 (by omega) (by omega))) ?_)
          by_cases c2 : (k : Int) < (lo : Int)
          · exact Ev.pos c2 (Ev.neg (fun c => z (h.ap2 i k hi1 (by omega) (by omega))) hh)
          · exact Ev.neg c2 hh
        · refine Ev.neg c1 ?_
          by_cases c2 : (k : Int) < (lo : Int)
          · exact Ev.pos c2 (Ev.neg (fun c => z (h.ap2 i k hi1 (by omega) (by omega))) hh)
          · exact Ev.neg c2 hh
    have fx := word_Finite_eq (h.u i k)
    rw [decide_eq_true (h.f i k hi1 hk)] at fx
    refine Ev.succ ?_
    simp only [gimballaw16_BalSame.l2]
    rw [cnt_rd w hi1, cnt_rd w hk, cnt_rd (fun x => (p x : Int)) hi1, cnt_rd (fun x => (p x : Int)) hk, w64 (x := w k - w i) (by omega) (by omega)]
    refine Ev.pos (by omega) (Ev.pos (by omega) (Ev.pos (by omega) (Ev.pos (by omega) (Ev.pos (by omega) (Ev.call (at_eq sm _ _ _) (Ev.bind ea (Ev.call (at_eq sm _ _ _) ?_)))))))
    rw [at_gat hi1 hk]
    exact Ev.call fx (Ev.pos rfl (Ev.call (at_eq sm _ _ _) (by
      rw [at_gat hi1 hk]
      exact Ev.bind eb (Ev.pos (by omega) (Ev.pos (by omega) (Ev.call t0 (Ev.bind em (Ev.bind es last_))))))))
theorem l1_ev : ∀ t i : Nat, n - i = t → i ≤ n → Ev (fun K => gimballaw16_BalSame.l1 K n i n n n n n n lo hi d (gat n n A) (cnt n (fun x => (p x : Int))) (cnt n w)) true := by
  intro t
  induction t with
  | zero =>
    intro i e1 e2
    refine Ev.succ ?_
    simp only [gimballaw16_BalSame.l1]
    exact Ev.neg (by omega) (Ev.bind (no_rows (by decide)) (Ev.call (new_eq (R := 2) (C := 3) (by decide) (by decide)) (Ev.bind no_square (Ev.pos rfl (Ev.now _)))))
  | succ t ih =>
    intro i e1 e2
    refine Ev.succ ?_
    simp only [gimballaw16_BalSame.l1]
    exact Ev.pos (by omega) (l2_ev hn wd ff h (show i < n by omega) (ih (i + 1) (by omega) (by omega)) n 0 (by omega) (by omega))
theorem l0_ev : ∀ t i : Nat, n - i = t → i ≤ n → ∀ seen : List (Int × Bool), (∀ j, i ≤ j → j < n → Go.Rk.mget seen (p j : Int) = false) →
    Ev (fun K => gimballaw16_BalSame.l0 K n i n n n n n n lo hi seen d (gat n n A) (cnt n (fun x => (p x : Int))) (cnt n w)) true := by
  intro t
  induction t with
  | zero =>
    intro i e1 e2 seen hs
    refine Ev.succ ?_
    simp only [gimballaw16_BalSame.l0]
    exact Ev.neg (by omega) (l1_ev hn wd ff h n 0 (by omega) (by omega))
  | succ t ih =>
    intro i e1 e2 seen hs
    have hi1 : i < n := by omega
    have l1 := cnt_len n w
    have l2 := cnt_len n (fun x => (p x : Int))
    have pi := h.plt i hi1
    have bi := h.wb i hi1
    have hh := ih (i + 1) (by omega) (by omega) (Go.Rk.mput seen (p i : Int) true) (fun j a b => by
      rw [mget_mput, if_neg (fun e => by have := h.pin i j hi1 b (by omega); omega)]
      exact hs j (by omega) b)
    refine Ev.succ ?_
    simp only [gimballaw16_BalSame.l0]
    rw [cnt_rd w hi1, cnt_rd (fun x => (p x : Int)) hi1, hs i (Nat.le_refl _) hi1, W1 i (by omega)]
    refine Ev.pos (by omega) (Ev.pos (by omega) (Ev.pos (by omega) (Ev.neg (by omega) (Ev.neg (by omega) (Ev.neg (by decide) (Ev.pos (by omega) (Ev.neg (by omega) (Ev.neg (by omega) ?_))))))))
    by_cases c1 : (i : Int) < (lo : Int)
    · exact Ev.pos c1 (Ev.pos (h.w0 i hi1 (by omega)) hh)
    · refine Ev.neg c1 ?_
      by_cases c2 : (i : Int) ≥ (hi : Int)
      · exact Ev.pos c2 (Ev.pos (h.w0 i hi1 (by omega)) hh)
      · exact Ev.neg c2 hh
end
theorem BalSame (a0 : Int) (w0 : (Lit.int .i64 a0).wf = true) (all : List Int) (w1 : ∀ x ∈ all, (Lit.int .u64 x).wf = true) (a2 : Int) (w2 : (Lit.int .u64 a2).wf = true) : ∃ k, gimballaw16_BalSame.f k a0 all a2 = some true := by
  have ha : ∀ x ∈ all, U x := fun x hx => U_of_wf (w1 x hx)
  apply Ev.rounds
  unfold gimballaw16_BalSame.f
  refine Ev.call rfl ?_
  by_cases hl : (all.length : Int) > 100
  · exact Ev.pos hl (Ev.now _)
  refine Ev.neg hl ?_
  obtain ⟨n, en, hn⟩ := and7_nat a0
  rw [en]
  obtain ⟨d, wd, ed⟩ := made16_ev (n := n) (by omega) ha (by omega) (holes := a2)
  have sm : Sm n n n := Sm.nat (by omega) (by omega)
  have hsame := mat_same_ev (R := n) (C := n) (s := n) (r' := n) (c' := n) (s' := n) sm sm d (gat n n (atN n n n d))
  rw [decide_eq_true ⟨rfl, rfl, fun i hi k hk => by
    show at4 n n n d i k = at4 n n n (gat n n (atN n n n d)) i k
    rw [at_gat hi hk]
    rfl⟩] at hsame
  obtain ⟨t, et, ft⟩ := finite_ev (R := n) (C := n) (s := (n : Int)) (by omega) (by omega) (by omega) wd.2
  refine Ev.bind ed (Ev.bind (clone_ev (R := n) (C := n) (s := (n : Int)) (by omega) (by omega) (by omega) d) ?_)
  by_cases ff : ∀ i k : Nat, i < n → k < n → fin (at4 n n n d i k)
  · obtain rfl : t = true := ft.mpr ff
    obtain ⟨A, p, w, lo, hi, h, ev⟩ := bal_ev (n := n) (by omega) wd.2 wd.1 ff
    have l1 := cnt_len n w
    have l2 := cnt_len n (fun x => (p x : Int))
    have hlh := h.lohi
    have hin := h.hin
    refine Ev.bind ev (Ev.bind hsame (Ev.pos rfl (Ev.bind et (Ev.pos rfl (Ev.pos rfl (Ev.pos rfl (Ev.pos rfl (Ev.pos (by rw [l2]) (Ev.pos (by rw [l1]) (Ev.neg (by show ¬ (lo : Int) < 0; omega) (Ev.neg (by show ¬ (lo : Int) > (hi : Int); omega) (Ev.succ ?_))))))))))))
    simp only [gimballaw16_BalSame.j0]
    exact Ev.neg (by simp; omega) (l0_ev hn wd ff h n 0 (by omega) (by omega) [] (fun _ _ _ => rfl))
  · have tf : t = false := by cases t; rfl; exact absurd (ft.mp rfl) ff
    subst tf
    exact Ev.bind (bal_no (n := n) (by omega) wd.2 wd.1 ff) (Ev.bind hsame (Ev.pos rfl (Ev.bind et (Ev.neg (by decide) (Ev.now _)))))
end Go.Proofs.YtlhpejbmjbcmaaaDoor.Pure
