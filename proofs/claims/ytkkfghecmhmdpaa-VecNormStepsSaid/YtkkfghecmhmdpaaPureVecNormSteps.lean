/- VecNormSteps: a root of a sum of squares, step by step, and its flags; for every input. -/
import Derived.Test.YtkkfghecmhmdpaaTPow
import Derived.Test.YtkkfghecmhmdpaaTAdd
import Derived.Test.YtkkfghecmhmdpaaTMul
import Derived.Test.YtkkfghecmhmdpaaTSqrt
import Derived.Test.YtkkfghecmhmdpaaFx8
import Derived.Test.YtkkfghecmhmdpaaFx6
import Derived.Test.YtkkfghecmhmdpaaFx7
import Derived.Test.YtkkfghecmhmdpaaFx9
import Derived.Test.YtkkfghecmhmdpaaFx10
namespace Go.Proofs.Ytkkfghecmhmdpaa.Pure
open Gim Go.RowKit Go.Proofs.Ytkkfghecmhmdpaa.F Go.Proofs.YtkkfghecmhmdpaaW.PrintWords Go.Proofs.YtkkfghecmhmdpaaW.PrintLast
set_option linter.unusedVariables false

theorem head_ok : gimballaw10_head.f 200 = some true := by decide +kernel
theorem head_ev : Ev (fun k => gimballaw10_head.f k) true := Ev.of (fun k => gimballaw10_head.mono k) head_ok
theorem wrap8 (z : Int) : 0 ≤ IntKind.u8.wrap z ∧ IntKind.u8.wrap z < 256 := by
  simp [IntKind.wrap, IntKind.bits, IntKind.signed]
  omega
theorem or8 (x y : Int) : 0 ≤ Go.bits .or .u8 x y ∧ Go.bits .or .u8 x y < 256 := by
  unfold Go.bits
  exact wrap8 _
theorem zero_or8 {x : Int} (h0 : 0 ≤ x) (h1 : x < 256) : Go.bits .or .u8 0 x = x := by
  obtain ⟨n, rfl⟩ := Int.eq_ofNat_of_zero_le h0
  have e0 : Go.bits .or .u8 0 (n : Int) = IntKind.u8.wrap ((BitVec.ofInt 8 0 ||| BitVec.ofInt 8 (n : Int)).toNat : Int) := rfl
  have e1 : BitVec.ofInt 8 0 = 0#8 := rfl
  rw [e0, e1, BitVec.zero_or, BitVec.ofInt_natCast, BitVec.toNat_ofNat, Nat.mod_eq_of_lt (by omega)]
  simp [IntKind.wrap, IntKind.bits, IntKind.signed]
  omega
theorem and_comm8 (x y : Int) : Go.bits .and .u8 x y = Go.bits .and .u8 y x := by
  have e : ∀ x y : Int, Go.bits .and .u8 x y = IntKind.u8.wrap ((BitVec.ofInt 8 x &&& BitVec.ofInt 8 y).toNat : Int) := fun _ _ => rfl
  rw [e, e, BitVec.and_comm]
section
variable {l : List Int} (hl : ∀ x ∈ l, U x) (hn : l.length ≤ 40) {e : Int} (e0 : -2000 ≤ e) (e1 : e ≤ 2000)
include hl hn e0 e1
/-- Both walks do the same steps. -/
theorem steps : ∀ t i : Nat, l.length - i = t → i ≤ l.length → ∀ s F : Int, U s → ∃ q G, U q ∧
    (∀ (c : Int) (r : Int × Int), Ev (fun K => vec_Nrm2.l0 K e q (l.map (fun x => (sc (-e) x).1)) ((l.map (fun x => (sc (-e) x).1)).length : Int) (l.length : Int) c G) r → Ev (fun K => vec_Nrm2.l0 K e s (l.map (fun x => (sc (-e) x).1)) ((l.map (fun x => (sc (-e) x).1)).length : Int) i c F) r) ∧
    (∀ (R c : Int) (r : Bool), Ev (fun K => gimballaw10_VecNormSteps.l0 K R e q l l.length (l.length : Int) c G) r → Ev (fun K => gimballaw10_VecNormSteps.l0 K R e s l l.length i c F) r) := by
  intro t
  induction t with
  | zero =>
    intro i h1 h2 s F hs
    obtain rfl : i = l.length := by omega
    exact ⟨s, F, hs, fun c r h => h, fun R c r h => h⟩
  | succ t ih =>
    intro i h1 h2 s F hs
    have hi : i < l.length := by omega
    have hu := hl _ (List.getElem_mem hi)
    have su := sc_U (n := -e) hu
    have hlen : (l.map (fun x => (sc (-e) x).1)).length = l.length := List.length_map _
    have hrd : rd (l.map (fun x => (sc (-e) x).1)) (i : Int) = (sc (-e) l[i]).1 := by rw [rd_at (by rw [hlen]; exact hi)]; simp
    obtain ⟨p, f, ev1, R1⟩ := mul_ev su su
    obtain ⟨z, g, ev2, R2⟩ := add_ev hs R1.range
    have m1 : Ev (fun K => soft_Calc_Mul.f K F (sc (-e) l[i]).1 (sc (-e) l[i]).1) (p, Go.bits .or .u8 F f) := by
      unfold soft_Calc_Mul.f; exact Ev.bind ev1 (Ev.call rfl (Ev.now _))
    have m2 : Ev (fun K => soft_Calc_Add.f K (Go.bits .or .u8 F f) s p) (z, Go.bits .or .u8 (Go.bits .or .u8 F f) g) := by
      unfold soft_Calc_Add.f; exact Ev.bind ev2 (Ev.call rfl (Ev.now _))
    obtain ⟨q, G, uq, k1, k2⟩ := ih (i + 1) (by omega) (by omega) z (Go.bits .or .u8 (Go.bits .or .u8 F f) g) (R2.range hs R1.range)
    refine ⟨q, G, uq, fun c r h => ?_, fun R c r h => ?_⟩
    · refine Ev.succ ?_
      simp only [vec_Nrm2.l0]
      rw [hrd, w64 (x := (i : Int) + 1) (by omega) (by omega)]
      exact Ev.pos (by rw [hlen]; omega) (Ev.pos (by omega) (Ev.pos (by rw [hlen]; omega) (Ev.bind m1 (Ev.bind m2 (k1 c r h)))))
    · refine Ev.succ ?_
      simp only [gimballaw10_VecNormSteps.l0]
      rw [rd_at hi, w64 (x := -e) (by omega) (by omega), w64 (x := (i : Int) + 1) (by omega) (by omega)]
      exact Ev.pos (by omega) (Ev.pos (by omega) (Ev.pos (by omega) (Ev.bind (sc_ev hu) (Ev.bind m1 (Ev.bind m2 (k2 R c r h))))))
end
theorem sqrt_U {a r f : Int} (ha : U a) (h : SqrtR a r f) (ev : Ev (fun k => more_Sqrt.f k a) (r, f)) : U r := by
  unfold SqrtR at h
  split at h
  · rw [h.1]; exact ⟨by decide, by decide⟩
  · split at h
    · rw [h.1]; exact ha
    · split at h
      · rw [h.1]; exact ⟨by decide, by decide⟩
      · obtain ⟨W, E, h0, h54, h1, h2, h3, h4⟩ := h
        have hI : INF < 18446744073709551616 := by decide
        by_cases e : ((W : Rat) * pw E) * ((W : Rat) * pw E) = vm (mag a)
        · have := (h3 e).range
          exact ⟨this.1, by omega⟩
        · have hp := pw_pos E
          have := (h4 e ((W : Rat) * pw E + pw E / 2) (by grind) (by push_cast; grind)).range
          exact ⟨this.1, by omega⟩
theorem VecNormSteps : gimballaw10_VecNormSteps.Pure := by
  intro l _ _ wl
  have hl : ∀ x ∈ l, U x := fun x hx => U_of_wf (wl x hx)
  apply Ev.rounds
  unfold gimballaw10_VecNormSteps.f
  refine Ev.bind head_ev (Ev.pos rfl ?_)
  by_cases hn : (l.length : Int) > 40
  · exact Ev.pos hn (Ev.now _)
  refine Ev.neg hn ?_
  have hn2 : l.length ≤ 40 := by omega
  obtain ⟨e, ok, ep, e0, e1⟩ := power_ev hl (by omega)
  obtain ⟨m, j, eg, um⟩ := greatest_ev hl (by omega)
  cases ok
  · have nr : Ev (fun K => vec_Nrm2.f K 0 l) (m, 0) := by
      unfold vec_Nrm2.f
      exact Ev.bind ep (Ev.neg (by simp) (Ev.bind eg (Ev.now _)))
    exact Ev.bind nr (Ev.bind ep (Ev.neg (by simp) (Ev.bind eg (Ev.pos rfl (Ev.now _)))))
  · obtain ⟨q, G, uq, k1, k2⟩ := steps hl hn2 e0 e1 l.length 0 (by omega) (by omega) 0 0 ⟨by decide, by decide⟩
    obtain ⟨r, f, es, Rs⟩ := more_Sqrt_ev uq
    have ur := sqrt_U uq Rs es
    have ec := sc_ev (n := e) ur
    have hlen : (l.map (fun x => (sc (-e) x).1)).length = l.length := List.length_map _
    have hb := or8 (sc e r).2 (Go.bits .and .u8 1 G)
    have nr : Ev (fun K => vec_Nrm2.f K 0 l) ((sc e r).1, Go.bits .or .u8 (sc e r).2 (Go.bits .and .u8 1 G)) := by
      unfold vec_Nrm2.f
      refine Ev.bind ep (Ev.pos rfl (Ev.bind (unit_ev hl (by omega) (by omega) (by omega)) (k1 0 _ (Ev.succ ?_))))
      simp only [vec_Nrm2.l0]
      refine Ev.neg (by rw [hlen]; omega) (Ev.bind es (Ev.bind ec (Ev.call (show soft_Calc_Note.f 0 _ _ = some (_, Go.bits .or .u8 0 _) from rfl) ?_)))
      rw [zero_or8 hb.1 hb.2]
      exact Ev.now _
    refine Ev.bind nr (Ev.bind ep (Ev.pos rfl (k2 _ _ _ (Ev.succ ?_))))
    simp only [gimballaw10_VecNormSteps.l0]
    refine Ev.neg (by omega) (Ev.bind es (Ev.bind ec (Ev.pos rfl ?_)))
    rw [and_comm8 1 G]
    exact Ev.ofEq (by simp)
end Go.Proofs.Ytkkfghecmhmdpaa.Pure
