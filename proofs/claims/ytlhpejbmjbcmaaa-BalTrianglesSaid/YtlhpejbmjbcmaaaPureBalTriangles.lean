/- BalTriangles: a triangle is apart from itself everywhere: nothing is scaled, and it is a triangle still; for every input. -/
import Derived.Test.YtlhpejbmjbcmaaaTx0
import Derived.Test.YtlhpejbmjbcmaaaRx0
set_option linter.constructorNameAsVariable false
set_option linter.unusedSimpArgs false
set_option linter.unusedVariables false
set_option linter.unusedSectionVars false
namespace Go.Proofs.Ytlhpejbmjbcmaaa.Pure
open Gim Go Go.RowKit Go.Proofs.Ytlhpejbmjbcmaaa.F Go.Proofs.YtlhpejbmjbcmaaaW.PrintWords Go.Proofs.YtlhpejbmjbcmaaaW.PrintLast
set_option linter.unusedVariables false
set_option linter.unusedSectionVars false

theorem and7_nat (x : Int) : ∃ n : Nat, Go.bits .and .i64 x 7 = (n : Int) ∧ n ≤ 7 := by
  rw [and7]
  exact ⟨(x % 8).toNat, by omega, by omega⟩
theorem W1 (x : Nat) (hx : x ≤ 1000) : wrap64 ((x : Int) + 1) = ((x + 1 : Nat) : Int) := by rw [w64 (by omega) (by omega)]; rfl
theorem mget_mput (es : List (Int × Bool)) (x y : Int) : Go.Rk.mget (Go.Rk.mput es x true) y = if x = y then true else Go.Rk.mget es y := by
  induction es with
  | nil =>
    simp only [Go.Rk.mput, Go.Rk.mget]
  | cons q l ih =>
    simp only [Go.Rk.mput]
    by_cases c : q.1 = x
    · rw [if_pos c]
      simp only [Go.Rk.mget]
      by_cases c2 : x = y
      · rw [if_pos c2, if_pos c2]
      · rw [if_neg c2, if_neg c2, if_neg (by omega)]
    · rw [if_neg c]
      simp only [Go.Rk.mget]
      by_cases c2 : q.1 = y
      · rw [if_pos c2, if_pos c2, if_neg (by omega)]
      · rw [if_neg c2, if_neg c2, ih]
/-- Some place is the greatest. -/
theorem greatest (p : Nat → Nat) (lo : Nat) : ∀ t : Nat, ∃ i, lo ≤ i ∧ i ≤ lo + t ∧ ∀ j, lo ≤ j → j ≤ lo + t → p j ≤ p i := by
  intro t
  induction t with
  | zero => exact ⟨lo, Nat.le_refl _, by omega, fun j a b => by rw [show j = lo from by omega]; exact Nat.le_refl _⟩
  | succ t ih =>
    obtain ⟨i, h1, h2, h3⟩ := ih
    by_cases c : p (lo + (t + 1)) ≤ p i
    · refine ⟨i, h1, by omega, fun j a b => ?_⟩
      by_cases e : j = lo + (t + 1)
      · subst e; exact c
      · exact h3 j a (by omega)
    · refine ⟨lo + (t + 1), by omega, by omega, fun j a b => ?_⟩
      by_cases e : j = lo + (t + 1)
      · subst e; exact Nat.le_refl _
      · have := h3 j a (by omega)
        omega
/-- Of a triangle nothing is left that isn't apart. -/
theorem apart {n : Nat} {m A : Nat → Nat → Int} {p : Nat → Nat} {w : Nat → Int} {lo hi : Nat} (h : LS n m A p w lo hi) (tri : ∀ i k, i < n → k < i → mag (m i k) = 0) : lo = hi := by
  have hlh := h.lohi
  have hin := h.hin
  refine Decidable.byContradiction fun c => ?_
  obtain ⟨i, h1, h2, h3⟩ := greatest p lo (hi - 1 - lo)
  refine h.nr i h1 (by omega) fun j a b d => ?_
  simp only [Bool.false_eq_true, if_false]
  rw [zero_iff (h.eq i j (by omega) (by omega))]
  refine tri _ _ (h.plt i (by omega)) ?_
  have e1 := h3 j a (by omega)
  have e2 : p j ≠ p i := fun e => d (h.pin j i (by omega) (by omega) e)
  omega
section
variable {n : Nat} (hn : n ≤ 7) {m A : Nat → Nat → Int} {p : Nat → Nat} {w : Nat → Int} {lo hi : Nat} (h : LS n m A p w lo hi) (hlo : lo = hi)
include hn h hlo
theorem l3_ev {i : Nat} (hi1 : i < n) {seen : List (Int × Bool)} {pl pw : List Int} (next : Ev (fun K => gimballaw16_BalTriangles.l2 K n ((i : Int) + 1) n n n seen (gat n n A) pl pw) true) :
    ∀ t k : Nat, i - k = t → k ≤ i → Ev (fun K => gimballaw16_BalTriangles.l3 K n i k n n n seen (gat n n A) pl pw) true := by
  have wa : ∀ x y, word_Abs.f (A x y) = some (mag (A x y)) := fun x y => word_Abs_eq (h.u x y)
  intro t
  induction t with
  | zero =>
    intro k e1 e2
    refine Ev.succ ?_
    simp only [gimballaw16_BalTriangles.l3]
    rw [w64 (x := (i : Int) + 1) (by omega) (by omega)]
    exact Ev.neg (by omega) next
  | succ t ih =>
    intro k e1 e2
    have sm : Sm n n n := Sm.nat (by omega) (by omega)
    have z : mag (A i k) = 0 := by
      by_cases c : hi ≤ i
      · exact h.ap1 i k hi1 (by omega) c
      · exact h.ap2 i k hi1 (by omega) (by omega)
    have hh := ih (k + 1) (by omega) (by omega)
    refine Ev.succ ?_
    simp only [gimballaw16_BalTriangles.l3]
    rw [W1 k (by omega)]
    refine Ev.pos (by omega) (Ev.call (at_eq sm _ _ _) ?_)
    rw [at_gat hi1 (show k < n by omega)]
    exact Ev.call (wa i k) (Ev.pos z hh)
theorem l2_ev : ∀ t i : Nat, n - i = t → i ≤ n → ∀ seen : List (Int × Bool), (∀ j, i ≤ j → j < n → Go.Rk.mget seen (p j : Int) = false) →
    Ev (fun K => gimballaw16_BalTriangles.l2 K n i n n n seen (gat n n A) (cnt n (fun x => (p x : Int))) (cnt n w)) true := by
  intro t
  induction t with
  | zero =>
    intro i e1 e2 seen hs
    refine Ev.succ ?_
    simp only [gimballaw16_BalTriangles.l2]
    exact Ev.neg (by omega) (Ev.now _)
  | succ t ih =>
    intro i e1 e2 seen hs
    have hi1 : i < n := by omega
    have l1 := cnt_len n w
    have l2 := cnt_len n (fun x => (p x : Int))
    have hw : w i = 0 := h.w0 i hi1 (by omega)
    have hh := ih (i + 1) (by omega) (by omega) (Go.Rk.mput seen (p i : Int) true) (fun j a b => by
      rw [mget_mput, if_neg (fun e => by have := h.pin i j hi1 b (by omega); omega)]
      exact hs j (by omega) b)
    refine Ev.succ ?_
    simp only [gimballaw16_BalTriangles.l2]
    rw [cnt_rd w hi1, cnt_rd (fun x => (p x : Int)) hi1, hs i (Nat.le_refl _) hi1]
    refine Ev.pos (by omega) (Ev.pos (by omega) (Ev.pos (by omega) (Ev.pos hw (Ev.pos (by omega) (Ev.succ ?_)))))
    simp only [gimballaw16_BalTriangles.j4]
    rw [cnt_rd (fun x => (p x : Int)) hi1]
    exact Ev.neg (by decide) (Ev.pos (by omega) (Ev.pos (by omega) (l3_ev hn h hlo hi1 hh i 0 (by omega) (by omega))))
end
section
variable {n : Nat} (hn : n ≤ 7)
include hn
theorem l1_ev {i : Nat} (hi : i < n) {ρ : Bool} : ∀ t k : Nat, i - k = t → k ≤ i → ∀ d : List Int, Words (n * n) d → (∀ a b : Nat, a < n → b < a → (a < i ∨ a = i ∧ b < k) → at4 n n n d a b = 0) →
    (∀ d' : List Int, Words (n * n) d' → (∀ a b : Nat, a < n → b < a → a < i + 1 → at4 n n n d' a b = 0) → Ev (fun K => gimballaw16_BalTriangles.l0 K n ((i : Int) + 1) n n n d') ρ) →
    Ev (fun K => gimballaw16_BalTriangles.l1 K n i k n n n d) ρ := by
  intro t
  induction t with
  | zero =>
    intro k e1 e2 d wd hz next
    refine Ev.succ ?_
    simp only [gimballaw16_BalTriangles.l1]
    rw [w64 (x := (i : Int) + 1) (by omega) (by omega)]
    exact Ev.neg (by omega) (next d wd (fun a b h1 h2 h3 => hz a b h1 h2 (by omega)))
  | succ t ih =>
    intro k e1 e2 d wd hz next
    have sm : Sm n n n := Sm.nat (by omega) (by omega)
    have hk : k < n := by omega
    have e : set4 n n n d i k 0 = d.set (i * n + k) 0 := by
      unfold set4
      rw [if_pos (inB_dense wd.1 hi hk)]
      have : ((i : Int) * (n : Int) + (k : Int)).toNat = i * n + k := by
        have : (i : Int) * (n : Int) + (k : Int) = ((i * n + k : Nat) : Int) := by push_cast; rfl
        rw [this, Int.toNat_natCast]
      rw [this]
    have hh := ih (k + 1) (by omega) (by omega) (set4 n n n d i k 0) (wd.set4 _ _ _ _ _ U_zero) (fun a b h1 h2 h3 => by
      rw [e, at_dense (by rw [List.length_set]; exact wd.1) h1 (show b < n by omega), rd_set (by rw [wd.1]; exact place_lt hi hk)]
      by_cases c : i * n + k = a * n + b
      · rw [if_pos c]
      · rw [if_neg c, ← at_dense wd.1 h1 (show b < n by omega)]
        refine hz a b h1 h2 ?_
        rcases h3 with h3 | ⟨h3, h4⟩
        · exact .inl h3
        · by_cases e5 : b = k
          · subst h3 e5; exact absurd rfl c
          · exact .inr ⟨h3, by omega⟩) next
    refine Ev.succ ?_
    simp only [gimballaw16_BalTriangles.l1]
    rw [W1 k (by omega)]
    exact Ev.pos (by omega) (Ev.call (set_eq sm _ _ _ _) hh)
theorem l0_ev : ∀ t i : Nat, n - i = t → i ≤ n → ∀ d : List Int, Words (n * n) d → (∀ a b : Nat, a < n → b < a → a < i → at4 n n n d a b = 0) → Ev (fun K => gimballaw16_BalTriangles.l0 K n i n n n d) true := by
  intro t
  induction t with
  | zero =>
    intro i e1 e2 d wd hz
    obtain rfl : n = i := by omega
    obtain ⟨b, eb, fb⟩ := finite_ev (R := n) (C := n) (s := (n : Int)) (by omega) (by omega) (by omega) wd.2
    refine Ev.succ ?_
    simp only [gimballaw16_BalTriangles.l0]
    refine Ev.neg (by omega) (Ev.bind eb ?_)
    cases b
    · exact Ev.neg (by decide) (Ev.now _)
    · obtain ⟨A, p, w, lo, hi, h, ev⟩ := bal_ev (n := n) (by omega) wd.2 wd.1 (fb.mp rfl)
      have hlo : lo = hi := apart h (fun i k h1 h2 => by
        show mag (at4 n n n d i k) = 0
        rw [hz i k h1 h2 h1]
        decide)
      have l1 := cnt_len n w
      refine Ev.pos rfl (Ev.bind ev (Ev.pos rfl (Ev.pos (by show (lo : Int) = (hi : Int); rw [hlo]) (Ev.succ ?_))))
      simp only [gimballaw16_BalTriangles.j2]
      refine Ev.neg (by rw [l1]; simp) (l2_ev hn h hlo n 0 (by omega) (by omega) [] (fun j _ _ => rfl))
  | succ t ih =>
    intro i e1 e2 d wd hz
    refine Ev.succ ?_
    simp only [gimballaw16_BalTriangles.l0]
    exact Ev.pos (by omega) (l1_ev hn (show i < n by omega) i 0 (by omega) (by omega) d wd (fun a b h1 h2 h3 => hz a b h1 h2 (by omega)) (fun d' wd' hz' => ih (i + 1) (by omega) (by omega) d' wd' (fun a b h1 h2 h3 => hz' a b h1 h2 (by omega))))
end
theorem BalTriangles (a0 : Int) (w0 : (Lit.int .i64 a0).wf = true) (all : List Int) (w1 : ∀ x ∈ all, (Lit.int .u64 x).wf = true) : ∃ k, gimballaw16_BalTriangles.f k a0 all = some true := by
  have ha : ∀ x ∈ all, U x := fun x hx => U_of_wf (w1 x hx)
  apply Ev.rounds
  unfold gimballaw16_BalTriangles.f
  refine Ev.call rfl ?_
  by_cases hl : (all.length : Int) > 100
  · exact Ev.pos hl (Ev.now _)
  refine Ev.neg hl ?_
  obtain ⟨n, en, hn⟩ := and7_nat a0
  rw [en]
  obtain ⟨d, wd, ed⟩ := made16_ev (n := n) (by omega) ha (by omega) (holes := 0)
  exact Ev.bind ed (l0_ev hn n 0 (by omega) (by omega) d wd (fun a b _ _ h3 => by omega))
end Go.Proofs.Ytlhpejbmjbcmaaa.Pure
