/- Lists that come of counting, and the rows of a matrix (gimballaw11.row). -/
import Derived.Test.YtfogmgcpajndcaaTMat
import Derived.Test.YtfogmgcpajndcaaFx9
namespace Gim
open Go Go.RowKit Go.Proofs.YtfogmgcpajndcaaW.PrintWords Go.Proofs.YtfogmgcpajndcaaW.PrintLast Go.Proofs.YtfogmgcpajndcaaW.PrintMore Go.Proofs.Ytfogmgcpajndcaa.F
set_option linter.unusedVariables false

def cnt (n : Nat) (f : Nat → Int) : List Int := (List.range n).map f
theorem cnt_len (n : Nat) (f : Nat → Int) : (cnt n f).length = n := by simp [cnt]
theorem cnt_rd {n i : Nat} (f : Nat → Int) (h : i < n) : rd (cnt n f) (i : Int) = f i := by
  unfold rd cnt; simp [List.getD_eq_getElem?_getD, h]
theorem cnt_succ (n : Nat) (f : Nat → Int) : cnt (n + 1) f = cnt n f ++ [f n] := by unfold cnt; rw [List.range_succ, List.map_append]; rfl
theorem cnt_U {n : Nat} {f : Nat → Int} (h : ∀ i, U (f i)) : ∀ x ∈ cnt n f, U x := by
  intro x hx
  obtain ⟨i, _, rfl⟩ := List.mem_map.mp hx
  exact h i
theorem cnt_short {n : Nat} (f : Nat → Int) (h : n ≤ 1000) : (cnt n f).length < 17592186044416 := by rw [cnt_len]; omega
theorem row_l0 {C : Nat} (hC : C ≤ 100) {r s i : Int} (hr : r ≤ 4096) (hs : s ≤ 1099511627776) (d : List Int) : ∀ t k : Nat, C - k = t → k ≤ C →
    Ev (fun K => gimballaw11_row.l0 K i (cnt k fun k => at4 r C s d i k) k r C s d) (cnt C fun k => at4 r C s d i k) := by
  intro t
  induction t with
  | zero =>
    intro k h1 h2
    obtain rfl : k = C := by omega
    refine Ev.succ ?_
    simp only [gimballaw11_row.l0]
    exact Ev.neg (by omega) (Ev.now _)
  | succ t ih =>
    intro k h1 h2
    have h := ih (k + 1) (by omega) (by omega)
    rw [cnt_succ] at h
    refine Ev.succ ?_
    simp only [gimballaw11_row.l0]
    rw [w64 (x := (k : Int) + 1) (by omega) (by omega)]
    exact Ev.pos (by omega) (Ev.call (at_eq ⟨hr, by omega, hs⟩ d i k) (Ev.pos (cnt_short _ (by omega)) h))
theorem row_ev {C : Nat} (hC : C ≤ 100) {r s : Int} (i : Int) (hr : r ≤ 4096) (hs : s ≤ 1099511627776) (d : List Int) : Ev (fun K => gimballaw11_row.f K r C s d i) (cnt C fun k => at4 r C s d i k) := by
  unfold gimballaw11_row.f
  exact row_l0 hC hr hs d C 0 (by omega) (by omega)
end Gim
