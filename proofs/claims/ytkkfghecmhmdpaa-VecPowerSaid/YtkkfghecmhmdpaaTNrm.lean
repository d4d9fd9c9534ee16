/- The root of a sum of squares: what its loop answers hangs on the divided numbers alone. -/
import Derived.Test.YtkkfghecmhmdpaaTPow2
import Derived.Test.YtkkfghecmhmdpaaTAdd
import Derived.Test.YtkkfghecmhmdpaaTMul
import Derived.Test.YtkkfghecmhmdpaaTSqrt
import Derived.Test.YtkkfghecmhmdpaaFx6
import Derived.Test.YtkkfghecmhmdpaaFx7
import Derived.Test.YtkkfghecmhmdpaaFx9
namespace Gim
open Go Go.RowKit Go.Proofs.YtkkfghecmhmdpaaW.PrintWords Go.Proofs.YtkkfghecmhmdpaaW.PrintLast Go.Proofs.YtkkfghecmhmdpaaW.PrintMore Go.Proofs.Ytkkfghecmhmdpaa.F
set_option linter.unusedVariables false

theorem wrap8 (z : Int) : 0 ≤ IntKind.u8.wrap z ∧ IntKind.u8.wrap z < 256 := by
  simp [IntKind.wrap, IntKind.bits, IntKind.signed]
  omega
theorem or8 (x y : Int) : 0 ≤ Go.bits .or .u8 x y ∧ Go.bits .or .u8 x y < 256 := by
  unfold Go.bits
  exact wrap8 _
theorem zero_or8 {x : Int} (h0 : 0 ≤ x) (h1 : x < 256) : Go.bits .or .u8 0 x = x := by
  obtain ⟨n, rfl⟩ := Int.eq_ofNat_of_zero_le h0
  have e0 : Go.bits .or .u8 0 (n : Int) = IntKind.u8.wrap ((BitVec.ofInt 8 0 ||| BitVec.ofInt 8 (n : Int)).toNat : Int) := rfl
  have e1 : BitVec.ofInt 8 0 = 0#8 := rfl
  rw [e0, e1, BitVec.zero_or, BitVec.ofInt_natCast, BitVec.toNat_ofNat, Nat.mod_eq_of_lt (by omega)]
  simp [IntKind.wrap, IntKind.bits, IntKind.signed]
  omega
theorem and_comm8 (x y : Int) : Go.bits .and .u8 x y = Go.bits .and .u8 y x := by
  have e : ∀ x y : Int, Go.bits .and .u8 x y = IntKind.u8.wrap ((BitVec.ofInt 8 x &&& BitVec.ofInt 8 y).toNat : Int) := fun _ _ => rfl
  rw [e, e, BitVec.and_comm]
theorem one_and8 (x : Int) : Go.bits .and .u8 1 x = 0 ∨ Go.bits .and .u8 1 x = 1 := by
  have e : Go.bits .and .u8 1 x = IntKind.u8.wrap ((BitVec.ofInt 8 1 &&& BitVec.ofInt 8 x).toNat : Int) := rfl
  have k : ∀ y : BitVec 8, (1#8 &&& y) = 0#8 ∨ (1#8 &&& y) = 1#8 := by decide
  have e1 : BitVec.ofInt 8 1 = 1#8 := rfl
  rw [e, e1]
  rcases k (BitVec.ofInt 8 x) with h | h
  · rw [h]; exact .inl rfl
  · rw [h]; exact .inr rfl
theorem sqrt_U {a r f : Int} (ha : U a) (h : SqrtR a r f) : U r := by
  unfold SqrtR at h
  split at h
  · rw [h.1]; exact ⟨by decide, by decide⟩
  · split at h
    · rw [h.1]; exact ha
    · split at h
      · rw [h.1]; exact ⟨by decide, by decide⟩
      · obtain ⟨W, E, h0, h54, h1, h2, h3, h4⟩ := h
        have hI : INF < 18446744073709551616 := by decide
        by_cases e : ((W : Rat) * pw E) * ((W : Rat) * pw E) = vm (mag a)
        · have := (h3 e).range
          exact ⟨this.1, by omega⟩
        · have hp := pw_pos E
          have := (h4 e ((W : Rat) * pw E + pw E / 2) (by grind) (by push_cast; grind)).range
          exact ⟨this.1, by omega⟩
theorem clampT {n : Int} (h0 : -10000 ≤ n) (h1 : n ≤ 10000) : mx (-10000) (mn n 10000) = n := by unfold mx mn; grind
theorem sc_R {n x : Int} (hx : U x) : ScaleR x (mx (-10000) (mn n 10000)) (sc n x).1 (sc n x).2 := by
  obtain ⟨r, f, ev, R⟩ := more_Scale_ev hx n
  rw [Ev.det (sc_ev hx) ev]
  exact R
theorem sc_R' {n x : Int} (hx : U x) (h0 : -10000 ≤ n) (h1 : n ≤ 10000) : ScaleR x n (sc n x).1 (sc n x).2 := by
  have := sc_R (n := n) hx
  rwa [clampT h0 h1] at this
/-- The sum of the squares of some patterns, and what it has met: one behind the other. -/
theorem nrm_loop {u : List Int} (hu : ∀ x ∈ u, U x) (hn : u.length ≤ 1000000) : ∀ t i : Nat, u.length - i = t → i ≤ u.length → ∀ s F : Int, U s → ∃ q G, U q ∧
    (∀ (e c : Int) (r : Int × Int), Ev (fun K => vec_Nrm2.l0 K e q u (u.length : Int) (u.length : Int) c G) r → Ev (fun K => vec_Nrm2.l0 K e s u (u.length : Int) i c F) r) := by
  intro t
  induction t with
  | zero =>
    intro i h1 h2 s F hs
    obtain rfl : i = u.length := by omega
    exact ⟨s, F, hs, fun e c r h => h⟩
  | succ t ih =>
    intro i h1 h2 s F hs
    have hi : i < u.length := by omega
    have su := hu _ (List.getElem_mem hi)
    obtain ⟨p, f, ev1, R1⟩ := mul_ev su su
    obtain ⟨z, g, ev2, R2⟩ := add_ev hs R1.range
    have m1 : Ev (fun K => soft_Calc_Mul.f K F u[i] u[i]) (p, Go.bits .or .u8 F f) := by
      unfold soft_Calc_Mul.f; exact Ev.bind ev1 (Ev.call rfl (Ev.now _))
    have m2 : Ev (fun K => soft_Calc_Add.f K (Go.bits .or .u8 F f) s p) (z, Go.bits .or .u8 (Go.bits .or .u8 F f) g) := by
      unfold soft_Calc_Add.f; exact Ev.bind ev2 (Ev.call rfl (Ev.now _))
    obtain ⟨q, G, uq, k1⟩ := ih (i + 1) (by omega) (by omega) z (Go.bits .or .u8 (Go.bits .or .u8 F f) g) (R2.range hs R1.range)
    refine ⟨q, G, uq, fun e c r h => ?_⟩
    refine Ev.succ ?_
    simp only [vec_Nrm2.l0]
    rw [rd_at hi, w64 (x := (i : Int) + 1) (by omega) (by omega)]
    exact Ev.pos (by omega) (Ev.pos (by omega) (Ev.pos (by omega) (Ev.bind m1 (Ev.bind m2 (k1 e c r h)))))
/-- The root of the sum of squares of numbers that are divided: it hangs on what they are, divided, and on the power. -/
theorem nrm_unit {u : List Int} (hu : ∀ x ∈ u, U x) (hn : u.length ≤ 1000000) : ∃ q G f, ∃ root : Int, U q ∧ U root ∧ SqrtR q root f ∧
    ∀ (l : List Int) (e c : Int), (∀ x ∈ l, U x) → l.length ≤ 1000000 → -2000 ≤ e → e ≤ 2000 → l.map (fun x => (sc (-e) x).1) = u → Ev (fun K => vec_Power.f K l) (e, true) →
      Ev (fun K => vec_Nrm2.f K c l) ((sc e root).1, Go.bits .or .u8 c (Go.bits .or .u8 (sc e root).2 (Go.bits .and .u8 1 G))) := by
  obtain ⟨q, G, uq, k⟩ := nrm_loop hu hn u.length 0 (by omega) (by omega) 0 0 ⟨by decide, by decide⟩
  obtain ⟨root, f, es, Rs⟩ := more_Sqrt_ev uq
  have ur := sqrt_U uq Rs
  refine ⟨q, G, f, root, uq, ur, Rs, fun l e c hl hl2 e0 e1 hm ep => ?_⟩
  have ec := sc_ev (n := e) ur
  have hun := unit_ev hl hl2 (show -20000 ≤ e by omega) (by omega)
  rw [hm] at hun
  unfold vec_Nrm2.f
  refine Ev.bind ep (Ev.pos rfl (Ev.bind hun (k e c _ (Ev.succ ?_))))
  simp only [vec_Nrm2.l0]
  exact Ev.neg (by omega) (Ev.bind es (Ev.bind ec (Ev.call (show soft_Calc_Note.f c _ _ = some (_, Go.bits .or .u8 c _) from rfl) (Ev.now _))))
end Gim
