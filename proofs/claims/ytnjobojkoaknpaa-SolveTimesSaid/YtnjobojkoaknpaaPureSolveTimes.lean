/- SolveTimes: a triangle times any list, step by step; what doesn't fit; for every input. -/
import Derived.Test.YtnjobojkoaknpaaTx0
import Derived.Test.YtnjobojkoaknpaaRx0
set_option linter.constructorNameAsVariable false
set_option linter.unusedSimpArgs false
set_option linter.unusedVariables false
set_option linter.unusedSectionVars false
namespace Go.Proofs.Ytnjobojkoaknpaa.Pure
open Gim Go Go.RowKit Go.Proofs.Ytnjobojkoaknpaa.F Go.Proofs.YtnjobojkoaknpaaW.PrintWords Go.Proofs.YtnjobojkoaknpaaW.PrintLast
set_option linter.unusedVariables false
set_option linter.unusedSectionVars false

theorem and7_nat (x : Int) : ∃ n : Nat, Go.bits .and .i64 x 7 = (n : Int) ∧ n ≤ 7 := by
  rw [and7]
  exact ⟨(x % 8).toNat, by omega, by omega⟩
section
variable {n : Nat} (hn : n ≤ 100) {d : List Int} (wd : Words (n * n) d) {x : List Int} (wx : Words n x) {up one : Bool}
include hn wd wx
/-- What doesn't fit. -/
theorem no_trmv {F : Int} : Ev (fun K => solve_Trmv.f K F n n n d up one (x ++ [0])) ([], 4, F) := by
  have hlen := wx.1
  have ne : ((n : Int) != ((x ++ [0]).length : Int)) = true := by rw [List.length_append, hlen]; simp; omega
  unfold solve_Trmv.f
  refine Ev.bind (check_dense (by omega) (by omega) wd.1) (Ev.pos rfl (Ev.pos rfl (Ev.succ ?_)))
  simp only [solve_Trmv.j0]
  rw [ne]
  exact Ev.pos rfl (Ev.now _)
theorem no_trsv {F : Int} : Ev (fun K => solve_Trsv.f K F n n n d up one (x ++ [0])) ([], 4, F) := by
  have hlen := wx.1
  have ne : ((n : Int) != ((x ++ [0]).length : Int)) = true := by rw [List.length_append, hlen]; simp; omega
  unfold solve_Trsv.f
  refine Ev.bind (check_dense (by omega) (by omega) wd.1) (Ev.pos rfl (Ev.pos rfl (Ev.succ ?_)))
  simp only [solve_Trsv.j0]
  rw [ne]
  exact Ev.pos rfl (Ev.now _)
theorem skip {y : List Int} {b i : Nat} {s F G : Int} {r : Bool} : ∀ m lo, lo + m = b → b ≤ n → (∀ k, lo ≤ k → k < b → ¬ (if up = true then i < k else k < i)) →
    Ev (fun K => gimballaw12_SolveTimes.l1 K n up one x y i s b n n n F G d) r → Ev (fun K => gimballaw12_SolveTimes.l1 K n up one x y i s lo n n n F G d) r := by
  intro m
  induction m with
  | zero => intro lo h1 _ _ h; obtain rfl : lo = b := by omega
            exact h
  | succ m ih =>
    intro lo h1 h2 h3 h
    refine Ev.succ ?_
    simp only [gimballaw12_SolveTimes.l1]
    rw [w64 (x := (lo : Int) + 1) (by omega) (by omega), in12_eq, decide_eq_false (h3 lo (by omega) (by omega))]
    exact Ev.pos (by omega) (Ev.call rfl (Ev.neg (by simp) (ih (lo + 1) (by omega) h2 (fun k a c => h3 k (by omega) c) h)))
theorem rows {y : List Int} {b i : Nat} {F : Int} {r : Bool} (hi : i < n) : ∀ m lo (s : Int × Int), lo + m = b → b ≤ n → U s.1 → (∀ k, lo ≤ k → k < b → (if up = true then i < k else k < i)) →
    Ev (fun K => gimballaw12_SolveTimes.l1 K n up one x y i (fSum (fun k => at4 n n n d i k) (fun k => rd x (k : Int)) lo m s).1 b n n n F (fSum (fun k => at4 n n n d i k) (fun k => rd x (k : Int)) lo m s).2 d) r →
    Ev (fun K => gimballaw12_SolveTimes.l1 K n up one x y i s.1 lo n n n F s.2 d) r := by
  intro m
  induction m with
  | zero => intro lo s h1 _ _ _ h; obtain rfl : lo = b := by omega
            exact h
  | succ m ih =>
    intro lo s h1 h2 hs h3 h
    have lk : lo < n := by omega
    have hU : U (rd x (lo : Int)) := rd_U wx.2 lo
    have hA : U (at4 n n n d i lo) := at_U wd.2 _ _
    have hh := ih (lo + 1) _ (by omega) h2 (cA_U (F := (cM s.2 (at4 n n n d i lo) (rd x (lo : Int))).2) hs (cM_U (F := s.2) hA hU)) (fun k a c => h3 k (by omega) c) h
    have hlen := wx.1
    refine Ev.succ ?_
    simp only [gimballaw12_SolveTimes.l1]
    rw [w64 (x := (lo : Int) + 1) (by omega) (by omega), at_eq (Sm.nat (by omega) (by omega)), in12_eq, decide_eq_true (h3 lo (by omega) (by omega))]
    exact Ev.pos (by omega) (Ev.call rfl (Ev.pos rfl (Ev.call rfl (Ev.pos (by omega) (Ev.pos (by omega) (Ev.bind (cM_ev hA hU) (Ev.bind (cA_ev hs (cM_U hA hU)) hh)))))))
theorem l0_ev {F : Int} (hF : F = fF n (fun i k => at4 n n n d i k) up one (fun k => rd x (k : Int)) n)
    (hp : Ev (fun K => solve_Pivot.f K F n n n d (x ++ [0]) 4607182418800017408) ([], false, 4, F)) : ∀ m i, i + m = n →
    Ev (fun K => gimballaw12_SolveTimes.l0 K n up one x (cnt n (fV n (fun i k => at4 n n n d i k) up one (fun k => rd x (k : Int)))) i n n n F (fF n (fun i k => at4 n n n d i k) up one (fun k => rd x (k : Int)) i) d) true := by
  intro m
  induction m with
  | zero =>
    intro i hm
    obtain rfl : i = n := by omega
    have hlen := wx.1
    refine Ev.succ ?_
    simp only [gimballaw12_SolveTimes.l0]
    refine Ev.neg (by omega) (Ev.pos (by omega) (Ev.bind (no_trmv hn wd wx) (Ev.bind (no_trsv hn wd wx) (Ev.bind hp ?_))))
    exact Ev.pos hF (Ev.pos rfl (Ev.pos rfl (Ev.now _)))
  | succ m ih =>
    intro i hm
    have hi : i < n := by omega
    have hh := ih (i + 1) (by omega)
    have hlen := wx.1
    have hU : ∀ k : Nat, U (rd x (k : Int)) := fun k => rd_U wx.2 k
    have hA : ∀ k : Nat, U (at4 n n n d i k) := fun k => at_U wd.2 _ _
    have eF : fF n (fun i k => at4 n n n d i k) up one (fun k => rd x (k : Int)) (i + 1) = (fOne n (fun i k => at4 n n n d i k) up one (fun k => rd x (k : Int)) i (fF n (fun i k => at4 n n n d i k) up one (fun k => rd x (k : Int)) i)).2 := rfl
    have eY : rd (cnt n (fV n (fun i k => at4 n n n d i k) up one (fun k => rd x (k : Int)))) (i : Int) = (fOne n (fun i k => at4 n n n d i k) up one (fun k => rd x (k : Int)) i (fF n (fun i k => at4 n n n d i k) up one (fun k => rd x (k : Int)) i)).1 := cnt_rd _ hi
    have hcl : (cnt n (fV n (fun i k => at4 n n n d i k) up one (fun k => rd x (k : Int)))).length = n := cnt_len _ _
    rw [eF] at hh
    generalize hy : cnt n (fV n (fun i k => at4 n n n d i k) up one (fun k => rd x (k : Int))) = y at *
    generalize fF n (fun i k => at4 n n n d i k) up one (fun k => rd x (k : Int)) i = G at *
    have us : U (if one = true then (rd x (i : Int), G) else cM G (at4 n n n d i i) (rd x (i : Int))).1 := by
      split
      · exact hU i
      · exact cM_U (hA i) (hU i)
    have last_ : Ev (fun K => gimballaw12_SolveTimes.l1 K n up one x y i (fOne n (fun i k => at4 n n n d i k) up one (fun k => rd x (k : Int)) i G).1 n n n n F (fOne n (fun i k => at4 n n n d i k) up one (fun k => rd x (k : Int)) i G).2 d) true := by
      refine Ev.succ ?_
      simp only [gimballaw12_SolveTimes.l1]
      rw [w64 (x := (i : Int) + 1) (by omega) (by omega)]
      exact Ev.neg (by omega) (Ev.pos (by omega) (Ev.pos (by omega) (Ev.pos eY hh)))
    have all : Ev (fun K => gimballaw12_SolveTimes.j2 K n up one x y i (if one = true then (rd x (i : Int), G) else cM G (at4 n n n d i i) (rd x (i : Int))).1 n n n F (if one = true then (rd x (i : Int), G) else cM G (at4 n n n d i i) (rd x (i : Int))).2 d) true := by
      refine Ev.succ ?_
      simp only [gimballaw12_SolveTimes.j2]
      cases up
      · refine rows hn wd wx hi i 0 (b := i) _ (by omega) (by omega) us (fun k _ c => by simpa using c) ?_
        refine skip hn wd wx (n - i) i (b := n) (by omega) (by omega) (fun k c _ => by simp; omega) ?_
        simpa only [fOne, loOf, cntOf, Bool.false_eq_true, if_false] using last_
      · refine skip hn wd wx (i + 1) 0 (b := i + 1) (by omega) (by omega) (fun k _ c => by simp; omega) ?_
        refine rows hn wd wx hi (n - (i + 1)) (i + 1) (b := n) _ (by omega) (by omega) us (fun k c _ => by simp; omega) ?_
        simpa only [fOne, loOf, cntOf, if_true] using last_
    refine Ev.succ ?_
    simp only [gimballaw12_SolveTimes.l0]
    rw [at_eq (Sm.nat (by omega) (by omega))]
    refine Ev.pos (by omega) (Ev.pos (by omega) (Ev.pos (by omega) ?_))
    cases one
    · exact Ev.neg (by simp) (Ev.call rfl (Ev.bind (cM_ev (hA i) (hU i)) all))
    · exact Ev.pos rfl all
end
theorem SolveTimes (a0 : Int) (w0 : (Lit.int .i64 a0).wf = true) (all : List Int) (w1 : ∀ x ∈ all, (Lit.int .u64 x).wf = true) (up one : Bool) : ∃ k, gimballaw12_SolveTimes.f k a0 all up one = some true := by
  have ha : ∀ x ∈ all, U x := fun x hx => U_of_wf (w1 x hx)
  apply Ev.rounds
  unfold gimballaw12_SolveTimes.f
  refine Ev.call rfl ?_
  by_cases hl : (all.length : Int) > 100
  · exact Ev.pos hl (Ev.now _)
  refine Ev.neg hl ?_
  obtain ⟨n, en, hn⟩ := and7_nat a0
  rw [en]
  obtain ⟨d, wd, ed⟩ := made12_ev (n := n) (by omega) ha (by omega) (show (0 : Int) ≤ 0 by decide) (by decide)
  obtain ⟨x, wx, ex⟩ := list12_ev (n := n) (by omega) ha (by omega) (show (0 : Int) ≤ 5 by decide) (by decide)
  refine Ev.bind ed (Ev.bind ex (Ev.bind (trmv_ev (by omega) wd wx) (Ev.pos rfl (Ev.succ ?_))))
  simp only [gimballaw12_SolveTimes.j0]
  have hl2 : (cnt n (fV n (fun i k => at4 n n n d i k) up one (fun k => rd x (k : Int)))).length = n := cnt_len _ _
  refine Ev.neg (by rw [hl2]; simp) (l0_ev (by omega) wd wx rfl ?_ n 0 (by omega))
  have hlen := wx.1
  unfold solve_Pivot.f
  refine Ev.bind (check_dense (by omega) (by omega) wd.1) (Ev.pos rfl (Ev.pos rfl (Ev.neg (by rw [List.length_append, hlen]; simp; omega) (Ev.succ ?_))))
  simp only [solve_Pivot.j0]
  exact Ev.pos trivial (Ev.now _)
end Go.Proofs.Ytnjobojkoaknpaa.Pure
