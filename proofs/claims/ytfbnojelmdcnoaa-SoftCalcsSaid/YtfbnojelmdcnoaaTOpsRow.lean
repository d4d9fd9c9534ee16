/- A slice of structs of a whole number and a word, opened: what the walk reads of it. -/
import Derived.Test.YtfbnojelmdcnoaaFx7
import Derived.ChangeSlices
import Derived.ChangeSame
import Derived.OpenShut
import Derived.ProofKit
import Derived.WalkKit
import Derived.ChangeOld
namespace Go.Proofs.Ytfbnojelmdcnoaa.F
open Go Go.ChangeShapes Go.WideShapes Go.ChangeAt Go.RowKit Go.Proofs.YtfbnojelmdcnoaaW.PrintWords Go.Proofs.YtfbnojelmdcnoaaW.PrintLast
set_option linter.unusedVariables false

theorem add_add' (a : Addr) (i j : Nat) : (a.add i).add j = a.add (i + j) := by
  unfold Addr.add
  repeat' split
  all_goals simp_all
  all_goals omega
theorem take_one {cs : List Value} {i : Nat} {v : Value} (h : (cs.drop i).take 1 = [v]) : cs[i]? = some v := by
  have h0 : ((cs.drop i).take 1)[0]? = some v := by rw [h]; rfl
  rw [List.getElem?_take, if_pos (by decide), List.getElem?_drop] at h0
  simpa using h0
theorem open_ops {H : Type} {enc : TypeId × Value → H} {P : Program} {W : World} {base : Nat} {spare : Nat → Bool} {held : Bool} {t e : TypeId} {f0 f1 : Field} {fuel : Nat} {a1 : Option Addr} {len cap : Nat} {x : DataW H × List MemPlace}
    (ht : P.underlying t = some (.slice e)) (he : P.underlying e = some (.struct #[f0, f1])) (h0 : P.underlying f0.type = some (.int .i64)) (h1 : P.underlying f1.type = some (.int .u64))
    (ce : P.cellsOf e = 2) (c0 : P.cellsOf f0.type = 1) (c1 : P.cellsOf f1.type = 1) (o0 : f0.offset = 0) (o1 : f1.offset = 1)
    (h : DataW.trod enc P W base spare held fuel t [.slice a1 len cap] = some x) :
    ∃ l : List S40, len = l.length ∧ Kd.C k40 W a1 l.length l ∧ l.length ≤ cap ∧ l.length ≤ 9223372036854775807 ∧ ∀ y ∈ l, (Lit.int .u64 y.f1).wf = true := by
  rcases DataW.trod_slice ht h with ⟨hn, _⟩ | ⟨a, len', cap', elems, rest, n, _, hcs, rfl, hb, hl, hm, hlen, hel, _, _⟩
  · simp only [List.cons.injEq, Value.slice.injEq, and_true] at hn
    obtain ⟨rfl, rfl, rfl⟩ := hn
    exact ⟨[], rfl, ⟨rfl, by decide, fun h => absurd h (by decide)⟩, by decide, by decide, fun y hy => by cases hy⟩
  · simp only [List.cons.injEq, Value.slice.injEq, and_true] at hcs
    obtain ⟨rfl, rfl, rfl⟩ := hcs
    have each : ∀ i : Nat, ∃ p : S40, i < len → W.cell? (a.add (i * 2)) = some (.int .i64 p.f0) ∧ W.cell? (a.add (i * 2 + 1)) = some (.int .u64 p.f1) ∧ (Lit.int .u64 p.f1).wf = true := by
      intro i
      by_cases hi : i < len
      · have hy : elems[i]? = some (elems[i]'(by omega)) := List.getElem?_eq_getElem (by omega)
        have hb' := hel i hi
        rw [hy, ce, Option.bind_eq_some_iff] at hb'
        obtain ⟨cs', hcs, hy'⟩ := hb'
        obtain ⟨y0, y1, m, _, hcl, t0, t1⟩ := trod_struct2 he hy'
        rw [c0, o0] at t0
        rw [c1, o1] at t1
        obtain ⟨n0, e0, _, w0⟩ := DataW.trod_int h0 t0
        obtain ⟨n1, e1, _, w1⟩ := DataW.trod_int h1 t1
        have g0 := take_one e0
        have g1 := take_one e1
        have hc := (World.cells?_some hcs).2.2
        have k0 := hc 0 (by decide)
        have k1 := hc 1 (by decide)
        rw [g0, add_add'] at k0
        rw [g1, add_add'] at k1
        exact ⟨⟨n0, n1⟩, fun _ => ⟨k0, k1, w1⟩⟩
      · exact ⟨⟨0, 0⟩, fun h => absurd h hi⟩
    obtain ⟨f, hf⟩ := Classical.axiomOfChoice each
    have hlen2 : ((List.range len).map f).length = len := by simp
    have hm2 : len ≤ 9223372036854775807 := by unfold maxLen at hm; omega
    refine ⟨(List.range len).map f, hlen2.symm, ⟨rfl, by rw [hlen2]; exact hm2, fun _ => ⟨a, rfl, fun j p hj => ?_⟩⟩, by rw [hlen2]; exact hl, by rw [hlen2]; exact hm2, ?_⟩
    · have hj2 : j < len := by
        have := (List.getElem?_eq_some_iff.mp hj).1
        rwa [hlen2] at this
      have hp : p = f j := by
        have : ((List.range len).map f)[j]? = some (f j) := by simp [hj2]
        rw [this] at hj
        exact (Option.some.inj hj).symm
      subst hp
      obtain ⟨g0, g1, _⟩ := hf j hj2
      refine ⟨[.int .i64 (f j).f0, .int .u64 (f j).f1], rfl, ⟨[.int .i64 (f j).f0], [.int .u64 (f j).f1], rfl, rfl, rfl⟩, fun i u hu => ?_⟩
      match i, hu with
      | 0, hu => simp at hu; subst hu; exact g0
      | 1, hu => simp at hu; subst hu; exact g1
      | i + 2, hu => simp at hu
    · intro y hy
      obtain ⟨i, hi, rfl⟩ := List.mem_map.mp hy
      exact (hf i (List.mem_range.mp hi)).2.2
end Go.Proofs.Ytfbnojelmdcnoaa.F
