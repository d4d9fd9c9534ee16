-- Written by a program of this seat's session (mkprint), out of the translation.
import Derived.Test.YtfbnojelmdcnoaaFx0
import Derived.Test.YtfbnojelmdcnoaaFx2
namespace Go.Proofs.Ytfbnojelmdcnoaa.F
open Go.RowKit Go.Proofs.YtfbnojelmdcnoaaW.PrintWords Go.Proofs.YtfbnojelmdcnoaaW.PrintLast Go.Proofs.YtfbnojelmdcnoaaW.PrintMore
attribute [local go_sem] max2_int min2_int max_two min_two max_three min_three max_four min_four   -- for this text's walks alone
set_option linter.unusedVariables false
set_option linter.unusedSimpArgs false

/-! ### word_Finite: function 18 -/
def word_Finite.f (a0 : Int) : Option (Bool) := (word_Exp.f a0).bind fun t553 => (some (decide (t553 < 2047)))
set_option maxHeartbeats 8000000 in
set_option maxRecDepth 100000 in
theorem word_Finite.calls (a0 : Int) (r : Bool) (w : World) (h : word_Finite.f a0 = some r) :
    Calls Try.prog 18 #[.int .u64 a0] w fun e w' => e = .returned (.bool r) ∧ Drawn0 w w' := by
  have H : ((word_Exp.f a0).bind fun t553 => (some (decide (t553 < 2047)))) = some r := h
  clear h
  replace H := Option.bind_eq_some_iff.mp H
  obtain ⟨t553, A20, H⟩ := H
  replace H : (some (decide (t553 < 2047))) = some r := H
  have A2 := Aside0.mk A20
  clear A20
  obtain rfl := Option.some.inj H
  go_enter Try.func18, Try.ntmps18
  go_wp2_with (first | ((with_reducible refine gate_callee (f := 55) rfl ?_); refine goesL_ (some 4) rfl rfl Try.func55 (by kernel_rfl) rfl #[.int .u64 a0] rfl (by (try simp only [List.map_toArray, List.map_cons, List.map_nil]); first | done | rfl | (simp only [List.length_drop, List.length_take]; rfl)) ?_; (with_reducible refine (word_Exp.calls a0 t553 _ A2.out).mono ?_); rintro e w' ⟨rfl, ⟨nd, rfl⟩⟩; refine ⟨_, rfl, ?_⟩))
  go_ret
  exact ⟨by first | rfl | (simp; done) | (simp [*]; done), by repeat (first | exact Drawn0.refl _ | apply Drawn0.step)⟩

end Go.Proofs.Ytfbnojelmdcnoaa.F
