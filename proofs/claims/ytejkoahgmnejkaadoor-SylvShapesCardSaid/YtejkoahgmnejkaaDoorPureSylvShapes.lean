/- SylvShapes: what can't be an equation is told, whatever the sizes and the numbers are. -/
import Derived.Test.YtejkoahgmnejkaaDoorTx1
import Derived.Test.YtejkoahgmnejkaaDoorRx0
set_option linter.constructorNameAsVariable false
set_option linter.unusedSimpArgs false
set_option linter.unusedVariables false
set_option linter.unusedSectionVars false
namespace Go.Proofs.YtejkoahgmnejkaaDoor.Pure
open Go Go.RowKit Go.Proofs.YtejkoahgmnejkaaDoorW.PrintWords Go.Proofs.YtejkoahgmnejkaaDoorW.PrintLast Go.Proofs.YtejkoahgmnejkaaDoorW.PrintMore Go.Proofs.YtejkoahgmnejkaaDoor.F Gim
set_option linter.unusedVariables false
theorem SylvShapes (a0 : Int) (h0 : (Lit.int .i64 a0).wf = true) (a1 : Int) (h1 : (Lit.int .i64 a1).wf = true) (a2 : Int) (h2 : (Lit.int .i64 a2).wf = true) (a3 : Int) (h3 : (Lit.int .i64 a3).wf = true) (l4 : List Int) (h4 : ∀ x ∈ l4, (Lit.int .u64 x).wf = true) :
    ∃ k, gimballaw21_SylvShapes.f k a0 a1 a2 a3 l4 = some true := by
  refine Ev.rounds ?_
  have ha : ∀ x ∈ l4, U x := fun x hx => U_wf (h4 x hx)
  have nat : ∀ x : Int, ∃ n : Nat, n ≤ 3 ∧ Go.bits .and .i64 x 3 = (n : Int) := fun x => ⟨(x % 4).toNat, by omega, by rw [and3]; omega⟩
  obtain ⟨p, hp, ep⟩ := nat a0
  obtain ⟨q, hq, eq⟩ := nat a1
  obtain ⟨m, hm, em⟩ := nat a2
  obtain ⟨n, hn, en⟩ := nat a3
  unfold gimballaw21_SylvShapes.f
  rw [ep, eq, em, en]
  refine Ev.call rfl ?_
  by_cases c : (l4.length : Int) > 60
  · exact Ev.pos c (Ev.now _)
  obtain ⟨A, ⟨wA, lA⟩, eA⟩ := upper_ev hp ha
  obtain ⟨B, ⟨wB, lB⟩, eB⟩ := upper_ev hq ha
  obtain ⟨C, wC, eC⟩ := made_ev hm ha hn
  refine Ev.neg c (Ev.bind eA (Ev.bind eB (Ev.bind eC ?_)))
  have two : ∀ {e : Int} {x : Int × Int × Int × (List Int) × Int × Int × Int}, Ev (fun K => gimballaw21_SylvShapes.j0 K a1 l4 e false p p p q q q m n n A B C) true := by
    intro e x
    refine Ev.succ ?_
    simp only [gimballaw21_SylvShapes.j0]
    rw [eq]
    obtain ⟨D, wD, eD⟩ := made_ev (R := 2) (by decide) ha (C := 3) (by decide)
    obtain ⟨G, wG, eG⟩ := made_ev (R := 2) (by decide) ha (C := q) hq
    exact Ev.neg (by simp) (Ev.bind (solve_neg hp hq wA wB lA lB (minus := false) (m := m) (n := n)) (Ev.bind eD (Ev.bind eG (Ev.bind (solve_rect hq wB lB (by decide) hq wG (show ((2 : Nat) : Int) ≠ ((3 : Nat) : Int) from by decide)) (Ev.pos rfl (Ev.now _))))))
  by_cases sh : m = p ∧ n = q
  · obtain ⟨rfl, rfl⟩ := sh
    obtain ⟨x, ev⟩ := solve_any hp hq wA wB lA lB wC (minus := false)
    refine Ev.bind ev (Ev.pos rfl ?_)
    rw [show ((n : Int) != (n : Int)) = false from by simp]
    exact two (x := x)
  · refine Ev.bind (solve_bad hp hq wA wB lA lB hm hn wC (minus := false) (by omega)) ?_
    have out : ∀ {t : Bool}, t = true → Ev (fun K => gimballaw21_SylvShapes.j0 K a1 l4 4 t p p p q q q m n n A B C) true := by
      intro t ht
      refine Ev.succ ?_
      simp only [gimballaw21_SylvShapes.j0]
      exact Ev.pos ht (Ev.now _)
    by_cases c2 : (m : Int) = (p : Int)
    · exact Ev.pos c2 (out (by simp; omega))
    · exact Ev.neg c2 (out rfl)
end Go.Proofs.YtejkoahgmnejkaaDoor.Pure
