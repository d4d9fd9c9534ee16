/- What the listed table gives: where the call begins the table stands in the world; and a world in which it stands. -/
import Derived.Test.YtnjobojkoaknpaaDoorRows
import Derived.Test.YtnjobojkoaknpaaDoorFx10
import Derived.ProofKit
import Derived.LaidMore
import Derived.OpenShut
import Derived.Stop.Joined
namespace Go.Proofs.YtnjobojkoaknpaaDoor.Laid
open Go Go.ChangeShapes Go.WideShapes Go.ChangeAt Go.RowKit Go.Proofs.YtnjobojkoaknpaaDoor.F
set_option linter.unusedVariables false

def laid : List (String × DataW Unit) := [("math/bits.deBruijn32tab", Rows.laid_math_bits_deBruijn32tab)]
theorem gTab : Tryd.prog.globalNamed "math/bits.deBruijn32tab" = some 0 := by kernel_rfl
theorem tTab : (Tryd.prog.globals[0]?).map (·.type) = some 98 := by kernel_rfl
theorem cellsU8 : Tryd.prog.cellsOf 5 = 1 := by kernel_rfl
theorem datum : (Rows.laid_math_bits_deBruijn32tab : DataW Unit) = .agg (Lib.deBruijn32tab.map fun (n : Nat) => .lit (.int .u8 (n : Int))) := rfl

set_option maxRecDepth 100000 in
theorem door_met (os : Os) (args : Array Value) : laidMetH Tryd.prog laid ((World.doorLaid Tryd.prog 400 os).forCall (fun _ _ => 0) ⟨#[], args, []⟩).memory :=
  laidMetH_of_parts3 (fuel := 8) (laidMet_of_run' 8 (by kernel_rfl) (by kernel_rfl)) (by kernel_rfl) (by kernel_rfl)

set_option maxRecDepth 100000 in
theorem tabW {W : World} (h : laidMetH Tryd.prog laid W) : lw W := by
  rw [MakeChecks.laidMetH_plain _ _ _ (by kernel_rfl)] at h
  obtain ⟨ps, ⟨g0, t0, cs0, f0, p0, q0, hg0, ht0, hv0, hd0, _, _⟩, _, _⟩ := h
  obtain rfl := Option.some.inj (gTab.symm.trans hg0)
  obtain rfl := Option.some.inj (tTab.symm.trans ht0)
  obtain ⟨xs, m, rfl, hx, hlen, hn, hel⟩ := DataW.trod_array Tryd.underlying98 hd0
  rw [datum] at hx
  simp only [Prod.mk.injEq, DataW.agg.injEq] at hx
  obtain ⟨hx1, _⟩ := hx
  intro j hj
  have hj' : j < 32 := hj
  have he := hel j hj'
  rw [cellsU8, Nat.mul_one] at he
  have hxj : xs[j]? = some (xs[j]'(by omega)) := List.getElem?_eq_getElem (by omega)
  rw [hxj] at he
  obtain ⟨k, e1, e2, _⟩ := DataW.trod_int Tryd.underlying5 he
  have h1 := congrArg (fun l => l[j]?) hx1
  simp only [List.getElem?_map, hxj, e2, Option.map_some, List.getElem?_eq_getElem hj] at h1
  injection h1 with h1
  injection h1 with h1
  injection h1 with _ h1
  have hc := World.var?_cell hg0 hv0 j
  have h2 := congrArg (fun l => l[0]?) e1
  simp at h2
  rw [hc, h2, ← h1, List.getD_eq_getElem?_getD, List.getElem?_eq_getElem hj]
  rfl
end Go.Proofs.YtnjobojkoaknpaaDoor.Laid
