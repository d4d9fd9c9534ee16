/- SolveSteps: what a triangle, times that, is any list, step by step; what can't be divided by; for every input. -/
import Derived.Test.YtnjobojkoaknpaaTTri
import Derived.Test.YtnjobojkoaknpaaTMd12
import Derived.Test.YtnjobojkoaknpaaFx10
import Derived.Test.YtnjobojkoaknpaaFx14
namespace Go.Proofs.Ytnjobojkoaknpaa.Pure
open Gim Go Go.RowKit Go.Proofs.Ytnjobojkoaknpaa.F Go.Proofs.YtnjobojkoaknpaaW.PrintWords Go.Proofs.YtnjobojkoaknpaaW.PrintLast
set_option linter.unusedVariables false
set_option linter.unusedSectionVars false

theorem head_ok : gimballaw12_head.f 200 = some true := by decide +kernel
theorem head_ev : Ev (fun k => gimballaw12_head.f k) true := Ev.of (fun k => gimballaw12_head.mono k) head_ok
theorem and7_nat (x : Int) : ∃ n : Nat, Go.bits .and .i64 x 7 = (n : Int) ∧ n ≤ 7 := by
  rw [and7]
  exact ⟨(x % 8).toNat, by omega, by omega⟩
section
variable {n : Nat} (hn : n ≤ 100) {d : List Int} (wd : Words (n * n) d) {up one : Bool}
include hn wd
theorem skip {a : List Int} {b i s : Nat} {l : List Int} {F G : Int} {r : Bool} : ∀ m lo, lo + m = b → b ≤ n → (∀ k, lo ≤ k → k < b → ¬ (if up = true then i < k else k < i)) →
    Ev (fun K => gimballaw12_SolveSteps.l2 K n up one a 0 l s i b n n n d F G) r → Ev (fun K => gimballaw12_SolveSteps.l2 K n up one a 0 l s i lo n n n d F G) r := by
  intro m
  induction m with
  | zero => intro lo h1 _ _ h; obtain rfl : lo = b := by omega
            exact h
  | succ m ih =>
    intro lo h1 h2 h3 h
    refine Ev.succ ?_
    simp only [gimballaw12_SolveSteps.l2]
    rw [w64 (x := (lo : Int) + 1) (by omega) (by omega), in12_eq, decide_eq_false (h3 lo (by omega) (by omega))]
    exact Ev.pos (by omega) (Ev.call rfl (Ev.neg (by simp) (ih (lo + 1) (by omega) h2 (fun k a c => h3 k (by omega) c) h)))
theorem rows {a : List Int} {b i s : Nat} {F : Int} {r : Bool} (hi : i < n) : ∀ m lo (l : List Int) (G : Int), lo + m = b → b ≤ n → Words n l → (∀ k, lo ≤ k → k < b → (if up = true then i < k else k < i)) →
    Ev (fun K => gimballaw12_SolveSteps.l2 K n up one a 0 (tRow (fun i k => at4 n n n d i k) i lo m (l, G)).1 s i b n n n d F (tRow (fun i k => at4 n n n d i k) i lo m (l, G)).2) r →
    Ev (fun K => gimballaw12_SolveSteps.l2 K n up one a 0 l s i lo n n n d F G) r := by
  intro m
  induction m with
  | zero => intro lo l G h1 _ _ _ h; obtain rfl : lo = b := by omega
            exact h
  | succ m ih =>
    intro lo l G h1 h2 hl h3 h
    have lk : lo < n := by omega
    have hA := at_UU hn wd
    have e1 := cM_ev (F := G) (hA i lo) (rdU hA hl lk)
    have e2 := cS_ev (F := (cM G (at4 n n n d i lo) (rd l (lo : Int))).2) (rdU hA hl hi) (cM_U (F := G) (hA i lo) (rdU hA hl lk))
    have W := tStep_W hA (s := (l, G)) hi lk hl
    have hh := ih (lo + 1) _ _ (by omega) h2 W (fun k a c => h3 k (by omega) c) h
    have hlen := hl.1
    refine Ev.succ ?_
    simp only [gimballaw12_SolveSteps.l2]
    rw [w64 (x := (lo : Int) + 1) (by omega) (by omega), at_eq (Sm.nat (by omega) (by omega)), in12_eq, decide_eq_true (h3 lo (by omega) (by omega))]
    exact Ev.pos (by omega) (Ev.call rfl (Ev.pos rfl (Ev.pos (by omega) (Ev.pos (by omega) (Ev.call rfl (Ev.pos (by omega) (Ev.pos (by omega) (Ev.bind e1 (Ev.bind e2 hh)))))))))
theorem compare {x : List Int} : ∀ m i, i + m = x.length → x.length ≤ 100 → Ev (fun K => gimballaw12_SolveSteps.l3 K x x (x.length : Int) i) true := by
  intro m
  induction m with
  | zero => intro i h1 h2
            refine Ev.succ ?_
            simp only [gimballaw12_SolveSteps.l3]
            exact Ev.neg (by omega) (Ev.now _)
  | succ m ih =>
    intro i h1 h2
    have hh := ih (i + 1) (by omega) h2
    refine Ev.succ ?_
    simp only [gimballaw12_SolveSteps.l3]
    rw [w64 (x := (i : Int) + 1) (by omega) (by omega)]
    exact Ev.pos (by omega) (Ev.pos (by omega) (Ev.pos (by omega) (Ev.pos (by omega) (Ev.pos trivial hh))))
theorem l1_ev {x : List Int} {F : Int} : ∀ m s (l : List Int) (G : Int), s + m = n → Words n l →
    (tRun n (fun i k => at4 n n n d i k) up one s m (l, G)) = (x, F) → Ev (fun K => gimballaw12_SolveSteps.l1 K n up one x 0 l s n n n d F G) true := by
  intro m
  induction m with
  | zero =>
    intro s l G hm hl he
    have e : (l, G) = (x, F) := he
    obtain ⟨rfl, rfl⟩ := Prod.mk.inj e
    have hlen := hl.1
    have ff : (G != G) = false := by simp
    refine Ev.succ ?_
    simp only [gimballaw12_SolveSteps.l1]
    rw [ff]
    refine Ev.neg (by omega) (Ev.pos trivial (Ev.pos (by omega) (Ev.succ ?_)))
    simp only [gimballaw12_SolveSteps.j4]
    exact Ev.neg (by simp) (compare hn wd l.length 0 (by omega) (by omega))
  | succ m ih =>
    intro s l G hm hl he
    have hA := at_UU hn wd
    have hs : s < n := by omega
    have hi := rowOf_lt (up := up) hs
    have W1 : Words n (tRow (fun i k => at4 n n n d i k) (rowOf n up s) (loOf up (rowOf n up s)) (cntOf n up (rowOf n up s)) (l, G)).1 := by
      refine tRow_W hA hi _ _ _ ?_ hl
      unfold loOf cntOf
      split <;> omega
    have W2 : Words n (tOne n (fun i k => at4 n n n d i k) up one s (l, G)).1 := tOne_W hA hs hl
    have hh := ih (s + 1) (tOne n (fun i k => at4 n n n d i k) up one s (l, G)).1 (tOne n (fun i k => at4 n n n d i k) up one s (l, G)).2 (by omega) W2 he
    have go : Ev (fun K => gimballaw12_SolveSteps.l2 K n up one x 0 (tRow (fun i k => at4 n n n d i k) (rowOf n up s) (loOf up (rowOf n up s)) (cntOf n up (rowOf n up s)) (l, G)).1 s (rowOf n up s : Nat) n n n n d F
        (tRow (fun i k => at4 n n n d i k) (rowOf n up s) (loOf up (rowOf n up s)) (cntOf n up (rowOf n up s)) (l, G)).2) true := by
      refine Ev.succ ?_
      simp only [gimballaw12_SolveSteps.l2]
      rw [w64 (x := (s : Int) + 1) (by omega) (by omega)]
      refine Ev.neg (by omega) ?_
      have hlen := W1.1
      cases one
      · rw [at_eq (Sm.nat (by omega) (by omega))]
        exact Ev.neg (by simp) (Ev.pos (by omega) (Ev.pos (by omega) (Ev.call rfl (Ev.bind (cD_ev (rdU hA W1 hi) (hA _ _)) hh))))
      · exact Ev.pos rfl hh
    have all : Ev (fun K => gimballaw12_SolveSteps.j2 K n up one x 0 l s (rowOf n up s : Nat) n n n d F G) true := by
      refine Ev.succ ?_
      simp only [gimballaw12_SolveSteps.j2]
      cases up
      · refine rows hn wd hi (rowOf n false s) 0 l G (b := rowOf n false s) (by omega) (by omega) hl (fun k _ c => by simpa using c) ?_
        refine skip hn wd (n - rowOf n false s) (rowOf n false s) (b := n) (by omega) (by omega) (fun k c _ => by simp; omega) ?_
        have := go
        simp only [loOf, cntOf] at this
        simpa using this
      · refine skip hn wd (rowOf n true s + 1) 0 (b := rowOf n true s + 1) (by omega) (by omega) (fun k _ c => by simp; omega) ?_
        refine rows hn wd hi (n - (rowOf n true s + 1)) (rowOf n true s + 1) l G (b := n) (by omega) (by omega) hl (fun k c _ => by simp; omega) ?_
        have := go
        simp only [loOf, cntOf] at this
        simpa using this
    refine Ev.succ ?_
    simp only [gimballaw12_SolveSteps.l1]
    refine Ev.pos (by omega) ?_
    cases up
    · exact Ev.neg (by simp) all
    · refine Ev.pos rfl ?_
      have e : wrap64 (wrap64 ((n : Int) - 1) - (s : Int)) = ((rowOf n true s : Nat) : Int) := by
        rw [w64 (x := (n : Int) - 1) (by omega) (by omega), w64 (by omega) (by omega)]
        simp only [rowOf, if_true]
        omega
      rw [e]
      exact all
theorem l0_ok {b x : List Int} {e F G : Int} {r : Bool} : ∀ m i, i + m = n → (∀ j, i ≤ j → j < n → ¬ bad n d one j) →
    Ev (fun K => gimballaw12_SolveSteps.l0 K n up one b x e n n n n d F G) r → Ev (fun K => gimballaw12_SolveSteps.l0 K n up one b x e i n n n d F G) r := by
  intro m
  induction m with
  | zero => intro i h1 h2 h; obtain rfl : i = n := by omega
            exact h
  | succ m ih =>
    intro i h1 h2 h
    have hh := ih (i + 1) (by omega) (fun j a c => h2 j (by omega) c) h
    have nb := h2 i (by omega) (by omega)
    refine Ev.succ ?_
    simp only [gimballaw12_SolveSteps.l0]
    rw [w64 (x := (i : Int) + 1) (by omega) (by omega), at_eq (Sm.nat (by omega) (by omega))]
    refine Ev.pos (by omega) ?_
    cases one
    · refine Ev.neg (by simp) (Ev.call rfl (Ev.call (word_Abs_eq (at_UU hn wd i i)) (Ev.neg ?_ hh)))
      intro k1
      exact nb ⟨rfl, k1⟩
    · exact Ev.pos rfl hh
theorem l0_no {b : List Int} {G : Int} : ∀ m i, i + m = n → (∃ j, i ≤ j ∧ j < n ∧ bad n d one j) →
    Ev (fun K => gimballaw12_SolveSteps.l0 K n up one b [] 7 i n n n d 0 G) true := by
  intro m
  induction m with
  | zero => intro i h1 h2; obtain ⟨j, h3, h4, _⟩ := h2; omega
  | succ m ih =>
    intro i h1 h2
    refine Ev.succ ?_
    simp only [gimballaw12_SolveSteps.l0]
    rw [w64 (x := (i : Int) + 1) (by omega) (by omega), at_eq (Sm.nat (by omega) (by omega))]
    refine Ev.pos (by omega) ?_
    have o : one = false := by obtain ⟨j, _, _, h5⟩ := h2; exact h5.1
    subst o
    refine Ev.neg (by simp) (Ev.call rfl (Ev.call (word_Abs_eq (at_UU hn wd i i)) ?_))
    by_cases c : mag (at4 n n n d i i) = 0
    · exact Ev.pos c (Ev.pos trivial (Ev.pos rfl (Ev.ofEq rfl)))
    · refine Ev.neg c (ih (i + 1) (by omega) ?_)
      obtain ⟨j, h3, h4, h5⟩ := h2
      refine ⟨j, ?_, h4, h5⟩
      rcases Nat.lt_or_eq_of_le h3 with h6 | h6
      · omega
      · subst h6; exact absurd h5.2 c
end
theorem SolveSteps : gimballaw12_SolveSteps.Pure := by
  intro a0 all up one _ _ _ wall
  have ha : ∀ x ∈ all, U x := fun x hx => U_of_wf (wall x hx)
  apply Ev.rounds
  unfold gimballaw12_SolveSteps.f
  refine Ev.bind head_ev (Ev.pos rfl ?_)
  by_cases hl : (all.length : Int) > 100
  · exact Ev.pos hl (Ev.now _)
  refine Ev.neg hl ?_
  obtain ⟨n, en, hn⟩ := and7_nat a0
  rw [en]
  obtain ⟨d, wd, ed⟩ := made12_ev (n := n) (by omega) ha (by omega) (show (0 : Int) ≤ 0 by decide) (by decide)
  obtain ⟨b, wb, eb⟩ := list12_ev (n := n) (by omega) ha (by omega) (show (0 : Int) ≤ 5 by decide) (by decide)
  have hlen := wb.1
  refine Ev.bind ed (Ev.bind eb ?_)
  by_cases c : ∃ j, j < n ∧ bad n d one j
  · refine Ev.bind (trsv_no (by omega) wd wb 0 c) ?_
    obtain ⟨j, h1, h2⟩ := c
    exact l0_no (by omega) wd n 0 (by omega) ⟨j, by omega, h1, h2⟩
  · have c' : ∀ j, j < n → ¬ bad n d one j := fun j h1 h2 => c ⟨j, h1, h2⟩
    refine Ev.bind (trsv_ev (by omega) wd wb 0 c') (l0_ok (by omega) wd n 0 (by omega) (fun j _ h => c' j h) (Ev.succ ?_))
    simp only [gimballaw12_SolveSteps.l0]
    refine Ev.neg (by omega) (Ev.call rfl ?_)
    rw [List.nil_append]
    exact Ev.pos (by simp only [List.length_nil]; omega) (l1_ev (by omega) wd n 0 b 0 (by omega) wb rfl)
end Go.Proofs.Ytnjobojkoaknpaa.Pure
