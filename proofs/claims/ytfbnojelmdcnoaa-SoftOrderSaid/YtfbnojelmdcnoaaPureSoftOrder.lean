/- SoftOrder: a greater number, with the same one added, or times one that isn't below 0, isn't less; for every three patterns. -/
import Derived.Test.YtfbnojelmdcnoaaTAdd
import Derived.Test.YtfbnojelmdcnoaaTMul
import Derived.Test.YtfbnojelmdcnoaaTRep
import Derived.Test.YtfbnojelmdcnoaaFx6
import Derived.Test.YtfbnojelmdcnoaaFx7
namespace Go.Proofs.Ytfbnojelmdcnoaa.Pure
open Gim Go.RowKit Go.Proofs.Ytfbnojelmdcnoaa.F Go.Proofs.YtfbnojelmdcnoaaW.PrintWords Go.Proofs.YtfbnojelmdcnoaaW.PrintLast
set_option linter.unusedVariables false

theorem head_ok : gimballaw04_head.f 60 = some true := by decide +kernel
theorem head_ev : Ev (fun k => gimballaw04_head.f k) true := Ev.of (fun k => gimballaw04_head.mono k) head_ok

/-- The order of the patterns. -/
def key (x : Int) : Int := if neg x then -mag x else mag x
theorem key_eq {x : Int} (h : U x) : gimballaw04_SoftOrder_1.f x = some (key x) := by
  have hm := mag_lt (a := x)
  have hN : word_Neg.f x = some (neg x) := word_Neg_eq h
  have hA : word_Abs.f x = some (mag x) := word_Abs_eq h
  unfold gimballaw04_SoftOrder_1.f key
  rw [hN, hA]
  simp only [Option.bind_some]
  cases hn : neg x
  · have e : mag x = x := by
      unfold neg at hn; have := of_decide_eq_false hn
      obtain ⟨h0, h1⟩ := h
      unfold mag; omega
    simp only [Bool.false_eq_true, if_false]
    rw [w64 (by omega) (by omega), e]
  · simp only [if_true]
    rw [w64 (x := mag x) (by omega) (by omega), w64 (by omega) (by omega)]
theorem key_signed (s : Bool) {m : Int} (h0 : 0 ≤ m) (h1 : m < 9223372036854775808) : key (signed s m) = if s then -m else m := by
  unfold key; rw [neg_signed h0 h1, mag_signed h0 h1]
theorem val_key {a b : Int} (h : key a ≤ key b) : val a ≤ val b := by
  have ha := mag_lt (a := a)
  have hb := mag_lt (a := b)
  have va := vm_nonneg ha.1
  have vb := vm_nonneg hb.1
  revert h
  unfold key val
  cases neg a <;> cases neg b <;> simp only [Bool.false_eq_true, if_false, if_true] <;> intro h
  · exact vm_mono ha.1 h
  · have e1 : mag a = 0 := by omega
    have e2 : mag b = 0 := by omega
    rw [e1, e2, vm_zero]; grind
  · grind
  · have := vm_mono hb.1 (show mag b ≤ mag a by omega)
    grind
theorem Rd.key_mono {x y : Rat} {z z' : Bool} {r f r' f' : Int} (h : Rd x z r f) (h' : Rd y z' r' f') (hxy : x ≤ y) : key r ≤ key r' := by
  have hI := INF_lt
  have k0 : ∀ s, key (signed s 0) = 0 := by intro s; rw [key_signed s (by decide) (by decide)]; cases s <;> rfl
  have kx : ∀ {x : Rat} {z : Bool} {r f : Int}, Rd x z r f → (x = 0 → key r = 0) ∧ (0 < x → ∃ m, RB x m f ∧ key r = m ∧ 0 ≤ m) ∧ (x < 0 → ∃ m, RB (-x) m f ∧ key r = -m ∧ 0 ≤ m) := by
    intro x z r f h
    refine ⟨fun h0 => by rw [(h.zero h0).1]; exact k0 z, fun hp => ?_, fun hn => ?_⟩
    · obtain ⟨m, rb, e⟩ := h.num (by grind)
      have hr := rb.range
      rw [decide_eq_false (by grind)] at e
      refine ⟨m, by unfold rabs at rb; rw [if_neg (by grind)] at rb; exact rb, ?_, hr.1⟩
      rw [e, key_signed false hr.1 (by omega)]; rfl
    · obtain ⟨m, rb, e⟩ := h.num (by grind)
      have hr := rb.range
      rw [decide_eq_true hn] at e
      refine ⟨m, by unfold rabs at rb; rw [if_pos hn] at rb; exact rb, ?_, hr.1⟩
      rw [e, key_signed true hr.1 (by omega)]; rfl
  obtain ⟨a1, a2, a3⟩ := kx h
  obtain ⟨b1, b2, b3⟩ := kx h'
  by_cases x0 : x = 0
  · rw [a1 x0]
    by_cases y0 : y = 0
    · rw [b1 y0]; exact Int.le_refl _
    · obtain ⟨m, _, e, hm⟩ := b2 (by grind); omega
  · by_cases xp : 0 < x
    · obtain ⟨m, rb, e, hm⟩ := a2 xp
      obtain ⟨m', rb', e', hm'⟩ := b2 (by grind)
      have := rb.mono rb' hxy
      omega
    · obtain ⟨m, rb, e, hm⟩ := a3 (by grind)
      by_cases y0 : y = 0
      · rw [b1 y0]; omega
      · by_cases yp : 0 < y
        · obtain ⟨m', rb', e', hm'⟩ := b2 yp; omega
        · obtain ⟨m', rb', e', hm'⟩ := b3 (by grind)
          have := rb'.mono rb (by grind)
          omega

theorem SoftOrder : gimballaw04_SoftOrder.Pure := by
  intro a b c wa wb wc
  have ha := U_of_wf wa
  have hb := U_of_wf wb
  have hc := U_of_wf wc
  apply Ev.rounds
  unfold gimballaw04_SoftOrder.f
  refine Ev.bind head_ev (Ev.pos rfl (Ev.call (word_Finite_eq ha) ?_))
  by_cases fa : fin a
  · refine Ev.pos (decide_eq_true fa) (Ev.call (word_Finite_eq hb) ?_)
    by_cases fb : fin b
    · refine Ev.pos (decide_eq_true fb) (Ev.call (word_Finite_eq hc) ?_)
      by_cases fc : fin c
      · refine Ev.pos (decide_eq_true fc) (Ev.call (key_eq ha) (Ev.call (key_eq hb) ?_))
        have main : ∀ {A B : Int}, U A → U B → fin A → fin B → key A ≤ key B →
            Ev (fun k => (soft_Add.f k A c).bind fun bt291 => ((soft_Add.f k B c).bind fun bt293 => ((word_Abs.f c).bind fun t295 => ((soft_Mul.f k A t295).bind fun bt296 => ((soft_Mul.f k B t295).bind fun bt298 => ((gimballaw04_SoftOrder_1.f bt291.1).bind fun t300 => ((gimballaw04_SoftOrder_1.f bt293.1).bind fun t301 => (if t300 ≤ t301 then ((gimballaw04_SoftOrder_1.f bt296.1).bind fun t302 => ((gimballaw04_SoftOrder_1.f bt298.1).bind fun t303 => (some (decide (t302 ≤ t303))))) else (some false))))))))) true := by
          intro A B hA hB fA fB hk
          have hm := mag_lt (a := c)
          have uc : U (mag c) := ⟨hm.1, by omega⟩
          have hmm : mag (mag c) = mag c := by show mag c % 9223372036854775808 = mag c; omega
          have fmc : fin (mag c) := by unfold fin; rw [hmm]; exact fc
          have vmc : val (mag c) = vm (mag c) := by
            have : neg (mag c) = false := by unfold neg; exact decide_eq_false (by omega)
            unfold val; rw [this, hmm]; rfl
          have v0 := vm_nonneg hm.1
          obtain ⟨r1, f1, e1, R1⟩ := add_fin hA hc fA fc
          obtain ⟨r2, f2, e2, R2⟩ := add_fin hB hc fB fc
          obtain ⟨r3, f3, e3, R3⟩ := mul_fin hA uc fA fmc
          obtain ⟨r4, f4, e4, R4⟩ := mul_fin hB uc fB fmc
          have hv := val_key hk
          have l1 := Rd.key_mono R1 R2 (by grind)
          have l2 := Rd.key_mono R3 R4 (by rw [vmc]; exact Rat.mul_le_mul_of_nonneg_right hv v0)
          have hAbs : word_Abs.f c = some (mag c) := word_Abs_eq hc
          refine Ev.bind e1 (Ev.bind e2 (Ev.call hAbs (Ev.bind e3 (Ev.bind e4 (Ev.call (key_eq R1.range.1) (Ev.call (key_eq R2.range.1) (Ev.pos l1 (Ev.call (key_eq R3.range.1) (Ev.call (key_eq R4.range.1) (Ev.ofEq ?_))))))))))
          rw [decide_eq_true l2]
        by_cases hk : key a > key b
        · exact Ev.pos hk (main hb ha fb fa (by omega))
        · exact Ev.neg hk (main ha hb fa fb (by omega))
      · exact Ev.neg (by simpa using fc) (Ev.now _)
    · exact Ev.neg (by simpa using fb) (Ev.now _)
  · exact Ev.neg (by simpa using fa) (Ev.now _)
end Go.Proofs.Ytfbnojelmdcnoaa.Pure
