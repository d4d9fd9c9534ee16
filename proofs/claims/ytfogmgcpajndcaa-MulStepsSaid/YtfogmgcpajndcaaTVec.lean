/- What the sum of products of package vec answers, and what it has met. -/
import Derived.Test.YtfogmgcpajndcaaTDot
import Derived.Test.YtfogmgcpajndcaaTCalc
import Derived.Test.YtfogmgcpajndcaaFx11
namespace Gim
open Go Go.RowKit Go.Proofs.YtfogmgcpajndcaaW.PrintWords Go.Proofs.YtfogmgcpajndcaaW.PrintLast Go.Proofs.YtfogmgcpajndcaaW.PrintMore Go.Proofs.Ytfogmgcpajndcaa.F
set_option linter.unusedVariables false

theorem dot_l0 {x y : List Int} (hx : ∀ z ∈ x, U z) (hy : ∀ z ∈ y, U z) (hl : x.length = y.length) (hn : x.length ≤ 1000000) (G : BitVec 8) : ∀ t i : Nat, x.length - i = t → i ≤ x.length → ∀ F : Int, F8 F → B8 F = G ||| orS (dF (fun i => rd x (i : Int)) (fun i => rd y (i : Int))) i →
    ∃ F', Ev (fun K => vec_Dot.l0 K x y (dS (fun i => rd x (i : Int)) (fun i => rd y (i : Int)) i) x.length i F) (dS (fun i => rd x (i : Int)) (fun i => rd y (i : Int)) x.length, 0, F') ∧ F8 F' ∧ B8 F' = G ||| orS (dF (fun i => rd x (i : Int)) (fun i => rd y (i : Int))) x.length := by
  intro t
  induction t with
  | zero =>
    intro i h1 h2 F hF hB
    obtain rfl : i = x.length := by omega
    refine ⟨F, Ev.succ ?_, hF, hB⟩
    simp only [vec_Dot.l0]
    exact Ev.neg (by omega) (Ev.now _)
  | succ t ih =>
    intro i h1 h2 F hF hB
    have ux := rd_U hx i
    have uy := rd_U hy i
    have us := dS_U (x := fun i => rd x (i : Int)) (y := fun i => rd y (i : Int)) (rd_U hx) (rd_U hy) i
    obtain ⟨F1, e1, f1, b1⟩ := cMul (F := F) ux uy
    obtain ⟨F2, e2, f2, b2⟩ := cAdd (F := F1) us (mv_U ux uy)
    obtain ⟨F', ev, r⟩ := ih (i + 1) (by omega) (by omega) F2 f2 (by rw [b2, b1, hB]; simp only [orS, dF]; ac_rfl)
    refine ⟨F', Ev.succ ?_, r⟩
    simp only [vec_Dot.l0]
    rw [w64 (x := (i : Int) + 1) (by omega) (by omega)]
    exact Ev.pos (by omega) (Ev.pos (by omega) (Ev.pos (by omega) (Ev.pos (by omega) (Ev.bind e1 (Ev.bind e2 ev)))))
/-- THE SUM OF PRODUCTS. -/
theorem dot_ev {x y : List Int} (hx : ∀ z ∈ x, U z) (hy : ∀ z ∈ y, U z) (hl : x.length = y.length) (hn : x.length ≤ 1000000) {F : Int} (hF : F8 F) :
    ∃ F', Ev (fun K => vec_Dot.f K F x y) (dS (fun i => rd x (i : Int)) (fun i => rd y (i : Int)) x.length, 0, F') ∧ F8 F' ∧ B8 F' = B8 F ||| orS (dF (fun i => rd x (i : Int)) (fun i => rd y (i : Int))) x.length := by
  obtain ⟨F', ev, r⟩ := dot_l0 hx hy hl hn (B8 F) x.length 0 (by omega) (by omega) F hF (by simp [orS])
  refine ⟨F', ?_, r⟩
  unfold vec_Dot.f
  exact Ev.pos (by omega) ev
theorem dot_no {x y : List Int} (hl : x.length ≠ y.length) {F : Int} : Ev (fun K => vec_Dot.f K F x y) (9221120237041090560, 4, F) := by
  unfold vec_Dot.f
  exact Ev.neg (by omega) (Ev.now _)
end Gim
