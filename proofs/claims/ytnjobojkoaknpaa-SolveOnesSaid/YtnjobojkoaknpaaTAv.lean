/- Sums and products as values; the flags as sets. -/
import Derived.Test.YtnjobojkoaknpaaTAdd
import Derived.Test.YtnjobojkoaknpaaTMul
import Derived.Test.YtnjobojkoaknpaaTRep
import Derived.Test.YtnjobojkoaknpaaTRes
namespace Gim
open Go Go.RowKit Go.Proofs.YtnjobojkoaknpaaW.PrintWords Go.Proofs.YtnjobojkoaknpaaW.PrintLast Go.Proofs.YtnjobojkoaknpaaW.PrintMore Go.Proofs.Ytnjobojkoaknpaa.F
set_option linter.unusedVariables false

/-- Flags as they are remembered: eight bits. -/
def F8 (f : Int) : Prop := 0 ≤ f ∧ f < 256
def B8 (f : Int) : BitVec 8 := BitVec.ofInt 8 f
theorem F8_0 : F8 0 := ⟨by decide, by decide⟩
theorem B8_0 : B8 0 = 0#8 := rfl
theorem or8_eq (x y : Int) : Go.bits .or .u8 x y = ((B8 x ||| B8 y).toNat : Int) := by
  have e : Go.bits .or .u8 x y = IntKind.u8.wrap ((BitVec.ofInt 8 x ||| BitVec.ofInt 8 y).toNat : Int) := rfl
  rw [e]
  unfold B8
  generalize (BitVec.ofInt 8 x ||| BitVec.ofInt 8 y) = v
  have := v.isLt
  simp [IntKind.wrap, IntKind.bits, IntKind.signed]
  omega
theorem F8_or (x y : Int) : F8 (Go.bits .or .u8 x y) := by
  rw [or8_eq]
  have := (B8 x ||| B8 y).isLt
  exact ⟨by omega, by omega⟩
theorem B8_or (x y : Int) : B8 (Go.bits .or .u8 x y) = B8 x ||| B8 y := by
  rw [or8_eq]
  show BitVec.ofInt 8 ((B8 x ||| B8 y).toNat : Int) = _
  rw [BitVec.ofInt_natCast, BitVec.ofNat_toNat, BitVec.setWidth_eq]
theorem F8_ext {x y : Int} (hx : F8 x) (hy : F8 y) (h : B8 x = B8 y) : x = y := by
  have e : ∀ z : Int, F8 z → ((B8 z).toNat : Int) = z := by
    intro z hz
    obtain ⟨n, rfl⟩ := Int.eq_ofNat_of_zero_le hz.1
    have h2 := hz.2
    show ((BitVec.ofInt 8 (n : Int)).toNat : Int) = _
    rw [BitVec.ofInt_natCast, BitVec.toNat_ofNat, Nat.mod_eq_of_lt (by omega)]
  rw [← e x hx, ← e y hy, h]
/-- All that came of the first n steps. -/
def orS (g : Nat → BitVec 8) : Nat → BitVec 8
  | 0 => 0#8
  | n + 1 => orS g n ||| g n
theorem orS_or (g h : Nat → BitVec 8) : ∀ n, orS (fun i => g i ||| h i) n = orS g n ||| orS h n
  | 0 => by simp [orS]
  | n + 1 => by
    simp only [orS]
    rw [orS_or g h n]
    ac_rfl
theorem orS_congr {g h : Nat → BitVec 8} : ∀ n, (∀ i, i < n → g i = h i) → orS g n = orS h n
  | 0, _ => rfl
  | n + 1, H => by simp only [orS]; rw [orS_congr n (fun i hi => H i (by omega)), H n (by omega)]

theorem or_acc (a b c : BitVec 8) : a ||| b ||| c = a ||| (b ||| c) := BitVec.or_assoc a b c
noncomputable def aP (a b : Int) : Int × Int := resOf (fun k => soft_Add.f k a b)
noncomputable def mP (a b : Int) : Int × Int := resOf (fun k => soft_Mul.f k a b)
noncomputable def av (a b : Int) : Int := (aP a b).1
noncomputable def af (a b : Int) : BitVec 8 := B8 (aP a b).2
noncomputable def mv (a b : Int) : Int := (mP a b).1
noncomputable def mf (a b : Int) : BitVec 8 := B8 (mP a b).2
theorem aP_ev {a b : Int} (ha : U a) (hb : U b) : Ev (fun k => soft_Add.f k a b) (aP a b) := by
  obtain ⟨r, f, ev, R⟩ := add_ev ha hb
  exact Ev.resE ev
theorem aP_R {a b : Int} (ha : U a) (hb : U b) : AddR a b (aP a b).1 (aP a b).2 := by
  obtain ⟨r, f, ev, R⟩ := add_ev ha hb
  rw [Ev.det (aP_ev ha hb) ev]
  exact R
theorem mP_ev {a b : Int} (ha : U a) (hb : U b) : Ev (fun k => soft_Mul.f k a b) (mP a b) := by
  obtain ⟨r, f, ev, R⟩ := mul_ev ha hb
  exact Ev.resE ev
theorem mP_R {a b : Int} (ha : U a) (hb : U b) : MulR a b (mP a b).1 (mP a b).2 := by
  obtain ⟨r, f, ev, R⟩ := mul_ev ha hb
  rw [Ev.det (mP_ev ha hb) ev]
  exact R
theorem av_U {a b : Int} (ha : U a) (hb : U b) : U (av a b) := (aP_R ha hb).range ha hb
theorem mv_U {a b : Int} (ha : U a) (hb : U b) : U (mv a b) := (mP_R ha hb).range
theorem rd_U {l : List Int} (h : ∀ x ∈ l, U x) (i : Nat) : U (rd l (i : Int)) := by
  unfold rd
  rw [Int.toNat_natCast, List.getD_eq_getElem?_getD]
  by_cases c : i < l.length
  · rw [List.getElem?_eq_getElem c]; exact h _ (List.getElem_mem c)
  · rw [List.getElem?_eq_none (by omega)]; exact ⟨by decide, by decide⟩
end Gim
