/- SoftCalcs: whatever is reckoned one behind the other: the numbers, and all flags that came; for every input. -/
import Derived.Test.YtfbnojelmdcnoaaTOps
import Derived.Test.YtfbnojelmdcnoaaTSub
import Derived.Test.YtfbnojelmdcnoaaTRep
import Derived.Test.YtfbnojelmdcnoaaFx6
import Derived.Test.YtfbnojelmdcnoaaFx7
namespace Go.Proofs.Ytfbnojelmdcnoaa.Pure
open Gim Go.RowKit Go.Proofs.Ytfbnojelmdcnoaa.F Go.Proofs.YtfbnojelmdcnoaaW.PrintWords Go.Proofs.YtfbnojelmdcnoaaW.PrintLast
set_option linter.unusedVariables false

theorem head_ok : gimballaw04_head.f 60 = some true := by decide +kernel
theorem head_ev : Ev (fun k => gimballaw04_head.f k) true := Ev.of (fun k => gimballaw04_head.mono k) head_ok
theorem div_U {a b r f : Int} (ha : U a) (hb : U b) (h : DivR a b r f) : U r := by
  unfold DivR at h
  repeat' split at h
  all_goals first
    | exact h.range.1
    | (obtain ⟨rfl, _⟩ := h; first | exact ⟨by decide, by decide⟩ | exact U_signed (by decide) (by decide))
theorem or8 (x y : Int) : 0 ≤ Go.bits .or .u8 x y ∧ Go.bits .or .u8 x y < 256 := by
  unfold Go.bits
  have : ∀ z : Int, 0 ≤ IntKind.u8.wrap z ∧ IntKind.u8.wrap z < 256 := by
    intro z
    simp [IntKind.wrap, IntKind.bits, IntKind.signed]
    omega
  exact this _
theorem or8_zero {x : Int} (h0 : 0 ≤ x) (h1 : x < 256) : Go.bits .or .u8 x 0 = x := by
  obtain ⟨n, rfl⟩ := Int.eq_ofNat_of_zero_le h0
  have e0 : Go.bits .or .u8 (n : Int) 0 = IntKind.u8.wrap ((BitVec.ofInt 8 (n : Int) ||| BitVec.ofInt 8 0).toNat : Int) := rfl
  have e1 : BitVec.ofInt 8 0 = 0#8 := rfl
  rw [e0, e1, BitVec.or_zero, BitVec.ofInt_natCast, BitVec.toNat_ofNat, Nat.mod_eq_of_lt (by omega)]
  simp [IntKind.wrap, IntKind.bits, IntKind.signed]
  omega
theorem rd_mem40 {l : List S40} {i : Nat} (h : i < l.length) : rd_T40 l (i : Int) ∈ l := by
  unfold rd_T40
  rw [Int.toNat_natCast, List.getD_eq_getElem?_getD, List.getElem?_eq_getElem h]
  exact List.getElem_mem h
section
variable {l : List S40} (hl : ∀ x ∈ l, U x.f1)
include hl
theorem l0_ev : ∀ t i : Nat, 60 - i = t → i ≤ 60 → ∀ a F : Int, U a → 0 ≤ F → F < 256 → Ev (fun K => gimballaw04_SoftCalcs.l0 K a l F i F) true := by
  intro t
  induction t with
  | zero =>
    intro i h1 h2 a F ha f0 f1
    refine Ev.succ ?_
    simp only [gimballaw04_SoftCalcs.l0]
    have stop : Ev (fun K => gimballaw04_SoftCalcs.j1 K a l F i false F) true := by
      refine Ev.succ ?_
      simp only [gimballaw04_SoftCalcs.j1]
      exact Ev.neg (by decide) (Ev.now _)
    by_cases c : (i : Int) < (l.length : Int)
    · refine Ev.pos c ?_
      rw [decide_eq_false (show ¬ (i : Int) < 60 by omega)]
      exact stop
    · exact Ev.neg c stop
  | succ t ih =>
    intro i h1 h2 a F ha f0 f1
    refine Ev.succ ?_
    simp only [gimballaw04_SoftCalcs.l0]
    by_cases c : (i : Int) < (l.length : Int)
    · refine Ev.pos c ?_
      rw [decide_eq_true (show (i : Int) < 60 by omega)]
      refine Ev.succ ?_
      simp only [gimballaw04_SoftCalcs.j1]
      rw [w64 (x := (i : Int) + 1) (by omega) (by omega)]
      refine Ev.pos trivial (Ev.pos (by omega) (Ev.pos c ?_))
      have hb := hl _ (rd_mem40 (show i < l.length by omega))
      generalize rd_T40 l (i : Int) = o at hb ⊢
      have next : ∀ r f : Int, U r → Ev (fun K => gimballaw04_SoftCalcs.l0 K r l (Go.bits .or .u8 F f) ((i : Int) + 1) (Go.bits .or .u8 F f)) true := fun r f hr => ih (i + 1) (by omega) (by omega) r _ hr (or8 _ _).1 (or8 _ _).2
      by_cases k0 : o.f0 = 0
      · obtain ⟨r, f, ev, R⟩ := add_ev ha hb
        have c1 : Ev (fun k => soft_Calc_Add.f k F a o.f1) (r, Go.bits .or .u8 F f) := by unfold soft_Calc_Add.f; exact Ev.bind ev (Ev.call rfl (Ev.now _))
        have c2 : Ev (fun k => soft_Calc_Add_nil.f k a o.f1) r := by unfold soft_Calc_Add_nil.f; exact Ev.bind ev (Ev.call rfl (Ev.now _))
        exact Ev.pos k0 (Ev.bind ev (Ev.bind c1 (Ev.bind c2 (Ev.pos rfl (Ev.pos rfl (Ev.pos rfl (next r f (R.range ha hb))))))))
      refine Ev.neg k0 ?_
      by_cases k1 : o.f0 = 1
      · obtain ⟨r, f, ev0, R⟩ := add_ev ha (U_flip hb)
        have ev := sub_of_add hb ev0
        have c1 : Ev (fun k => soft_Calc_Sub.f k F a o.f1) (r, Go.bits .or .u8 F f) := by unfold soft_Calc_Sub.f; exact Ev.bind ev (Ev.call rfl (Ev.now _))
        have c2 : Ev (fun k => soft_Calc_Sub_nil.f k a o.f1) r := by unfold soft_Calc_Sub_nil.f; exact Ev.bind ev (Ev.call rfl (Ev.now _))
        exact Ev.pos k1 (Ev.bind ev (Ev.bind c1 (Ev.bind c2 (Ev.pos rfl (Ev.pos rfl (Ev.pos rfl (next r f (R.range ha (U_flip hb)))))))))
      refine Ev.neg k1 ?_
      by_cases k2 : o.f0 = 2
      · obtain ⟨r, f, ev, R⟩ := mul_ev ha hb
        have c1 : Ev (fun k => soft_Calc_Mul.f k F a o.f1) (r, Go.bits .or .u8 F f) := by unfold soft_Calc_Mul.f; exact Ev.bind ev (Ev.call rfl (Ev.now _))
        have c2 : Ev (fun k => soft_Calc_Mul_nil.f k a o.f1) r := by unfold soft_Calc_Mul_nil.f; exact Ev.bind ev (Ev.call rfl (Ev.now _))
        exact Ev.pos k2 (Ev.bind ev (Ev.bind c1 (Ev.bind c2 (Ev.pos rfl (Ev.pos rfl (Ev.pos rfl (next r f R.range)))))))
      refine Ev.neg k2 ?_
      by_cases k3 : o.f0 = 3
      · obtain ⟨r, f, ev, R⟩ := div_ev ha hb
        have c1 : Ev (fun k => soft_Calc_Div.f k F a o.f1) (r, Go.bits .or .u8 F f) := by unfold soft_Calc_Div.f; exact Ev.bind ev (Ev.call rfl (Ev.now _))
        have c2 : Ev (fun k => soft_Calc_Div_nil.f k a o.f1) r := by unfold soft_Calc_Div_nil.f; exact Ev.bind ev (Ev.call rfl (Ev.now _))
        exact Ev.pos k3 (Ev.bind ev (Ev.bind c1 (Ev.bind c2 (Ev.pos rfl (Ev.pos rfl (Ev.pos rfl (next r f (div_U ha hb R))))))))
      refine Ev.neg k3 ?_
      by_cases k4 : o.f0 = 4
      · exact Ev.pos k4 (Ev.call rfl (Ev.call rfl (Ev.pos rfl (Ev.pos rfl (Ev.pos rfl (next a _ ha))))))
      · refine Ev.neg k4 (Ev.pos trivial (Ev.pos (or8_zero f0 f1).symm ?_))
        have h := next a 0 ha
        rw [or8_zero f0 f1] at h ⊢
        exact h
    · refine Ev.neg c (Ev.succ ?_)
      simp only [gimballaw04_SoftCalcs.j1]
      exact Ev.neg (by decide) (Ev.now _)
end
theorem SoftCalcs (a : Int) (l : List S40) (wa : (Lit.int .u64 a).wf = true) (hl : ∀ x ∈ l, (Lit.int .u64 x.f1).wf = true) (hn : l.length ≤ 9223372036854775807) : ∃ k, gimballaw04_SoftCalcs.f k a l = some true := by
  apply Ev.rounds
  unfold gimballaw04_SoftCalcs.f
  refine Ev.bind head_ev (Ev.pos rfl ?_)
  exact l0_ev (fun x hx => U_of_wf (hl x hx)) 60 0 (by omega) (by omega) a 0 (U_of_wf wa) (by decide) (by decide)
end Go.Proofs.Ytfbnojelmdcnoaa.Pure
