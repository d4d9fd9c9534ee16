/- What the listed table gives: where the call begins the table stands in the world; and a world in which it stands. -/
import Derived.Test.YtdmhepgfmickdaaDoorRows
import Derived.Test.YtdmhepgfmickdaaDoorRx0
import Derived.ProofKit
import Derived.Shelf.Spec.TrailingZeros
import Derived.Test.YtdmhepgfmickdaaDoorRun2
import Derived.LaidMore
import Derived.OpenShut
import Derived.Stop.Joined
set_option linter.constructorNameAsVariable false
set_option linter.unusedSimpArgs false
set_option linter.unusedVariables false
set_option linter.unusedSectionVars false
namespace Go.Proofs.YtdmhepgfmickdaaDoor.Laid
open Go Go.ChangeShapes Go.WideShapes Go.ChangeAt Go.RowKit Go.Proofs.YtdmhepgfmickdaaDoor.F
set_option linter.unusedVariables false

/-- The library's table stands in the world. -/
def TabW (w : World) : Prop := Go.Proofs.TabAt 0 Lib.deBruijn32tab w

def laid : List (String × DataW Unit) := [("math/bits.deBruijn32tab", Rows.laid_math_bits_deBruijn32tab)]
theorem gTab : Tryd.prog.globalNamed "math/bits.deBruijn32tab" = some 0 := by kernel_rfl
theorem tTab : (Tryd.prog.globals[0]?).map (·.type) = some 102 := by kernel_rfl
theorem cellsU8 : Tryd.prog.cellsOf 5 = 1 := by kernel_rfl
theorem datum : (Rows.laid_math_bits_deBruijn32tab : DataW Unit) = .agg (Lib.deBruijn32tab.map fun (n : Nat) => .lit (.int .u8 (n : Int))) := rfl

set_option maxRecDepth 100000 in
/-- The door's own heap meets the condition. -/
theorem door_met (os : Os) (args : Array Value) : laidMetH Tryd.prog laid ((World.doorLaid Tryd.prog 400 os).forCall (fun _ _ => 0) ⟨#[], args, []⟩).memory :=
  laidMetH_of_parts3 (fuel := 8) (laidMet_of_run' 8 (by kernel_rfl) (by kernel_rfl)) (by kernel_rfl) (by kernel_rfl)

set_option maxRecDepth 100000 in
/-- The condition gives the table. -/
theorem tabW {W : World} (h : laidMetH Tryd.prog laid W) : TabW W := by
  rw [MakeChecks.laidMetH_plain _ _ _ (by kernel_rfl)] at h
  obtain ⟨ps, ⟨g0, t0, cs0, f0, p0, q0, hg0, ht0, hv0, hd0, _, _⟩, _, _⟩ := h
  obtain rfl := Option.some.inj (gTab.symm.trans hg0)
  obtain rfl := Option.some.inj (tTab.symm.trans ht0)
  obtain ⟨xs, m, rfl, hx, hlen, hn, hel⟩ := DataW.trod_array Tryd.underlying102 hd0
  rw [datum] at hx
  simp only [Prod.mk.injEq, DataW.agg.injEq] at hx
  obtain ⟨hx1, _⟩ := hx
  intro j hj
  have hj' : j < 32 := hj
  have he := hel j hj'
  rw [cellsU8, Nat.mul_one] at he
  have hxj : xs[j]? = some (xs[j]'(by omega)) := List.getElem?_eq_getElem (by omega)
  rw [hxj] at he
  obtain ⟨k, e1, e2, _⟩ := DataW.trod_int Tryd.underlying5 he
  have h1 := congrArg (fun l => l[j]?) hx1
  simp only [List.getElem?_map, hxj, e2, Option.map_some, List.getElem?_eq_getElem hj] at h1
  injection h1 with h1
  injection h1 with h1
  injection h1 with _ h1
  have hc := World.var?_cell hg0 hv0 j
  have h2 := congrArg (fun l => l[0]?) e1
  simp at h2
  rw [hc, h2, ← h1, List.getD_eq_getElem?_getD, List.getElem?_eq_getElem hj]
  rfl
/-- The plain machine's table is the library's. -/
theorem tabV {W : World} (h : TabW W) : ∀ g, E0.G g ≠ [] → Go.Rk.VC (Go.Rk.muW W) (.q (E0.G g) 0 true) (.pointer (some ⟨g, 0, none⟩)) := by
  intro g hg
  have hE : E0.G g = if g = 0 then tab32.map (Go.Rk.V.i .u8) else [] := rfl
  rw [hE] at hg ⊢
  by_cases c : g = 0
  · subst c
    rw [if_pos rfl]
    have h0 := h 0 (by decide)
    unfold World.cell? at h0
    split at h0
    · rename_i cs e fz hh
      split at h0
      · cases h0
      · have hmu : Go.Rk.muW W 0 = some cs := by
          have hh' : W.heap[0]? = some (.cells cs e fz) := hh
          unfold Go.Rk.muW; rw [hh']
        refine .q (o := 0) (fun j => .int .u8 ((Lib.deBruijn32tab.getD j 0 : Nat) : Int)) hmu ?_ ?_
        · intro j hj
          have hj' : j < Lib.deBruijn32tab.length := by
            have h32 : j < 32 := by simpa [tab32] using hj
            exact h32
          have := h j hj'
          unfold World.cell? at this
          rw [show W.heap[(⟨0, j, none⟩ : Addr).block]? = some (.cells cs e fz) from hh] at this
          simp only at this
          split at this
          · cases this
          · rw [Nat.zero_add]; exact this
        · intro j hj
          have e : tab32 = Lib.deBruijn32tab.map Int.ofNat := rfl
          have hj' : j < Lib.deBruijn32tab.length := by
            have h32 : j < 32 := by simpa [tab32] using hj
            exact h32
          have e2 : ∀ hh, (tab32.map (Go.Rk.V.i .u8))[j]'hh = .i .u8 ((Lib.deBruijn32tab.getD j 0 : Nat) : Int) := by
            intro hh
            simp only [e, List.getElem_map, List.getD_eq_getElem?_getD, List.getElem?_eq_getElem hj', Option.getD_some]
            rfl
          show Go.Rk.VC _ ((tab32.map (Go.Rk.V.i .u8))[j]'hj) _
          rw [e2 hj]
          exact .i
    · cases h0
  · rw [if_neg c] at hg; exact absurd rfl hg
end Go.Proofs.YtdmhepgfmickdaaDoor.Laid
