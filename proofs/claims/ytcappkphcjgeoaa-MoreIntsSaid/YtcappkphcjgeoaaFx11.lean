-- Written by a program of this seat's session (mkprint), out of the translation.
import Derived.Test.YtcappkphcjgeoaaShort
import Derived.Test.YtcappkphcjgeoaaFx0
import Derived.Test.YtcappkphcjgeoaaFx6
namespace Go.Proofs.Ytcappkphcjgeoaa.F
open Go.RowKit Go.Proofs.YtcappkphcjgeoaaW.PrintWords Go.Proofs.YtcappkphcjgeoaaW.PrintLast Go.Proofs.YtcappkphcjgeoaaW.PrintMore
attribute [local go_sem] max2_int min2_int max_two min_two max_three min_three max_four min_four   -- for this text's walks alone
set_option linter.unusedVariables false
set_option linter.unusedSimpArgs false

/-! ### gimbalref04_Whole: function 18 -/
def gimbalref04_Whole.f (k : Nat) (a0 : Int) : Option (List Int) := (gimbalref04_Parts.f a0).bind fun bt459 => (if bt459.2.1 = 0 then ((gimbalref02_Of.f k bt459.2.2).bind fun t462 => (some t462)) else ((gimbalref02_Of.f k (IntKind.u64.wrap (bt459.2.2 + 4503599627370496))).bind fun t465 => ((gimbalref02_Up.f k t465 (wrap64 (bt459.2.1 - 1))).bind fun t468 => (some t468))))
theorem gimbalref04_Whole.mono : ∀ a0 k, LeO (gimbalref04_Whole.f k a0) (gimbalref04_Whole.f (k + 1) a0) := by
 intro a0 k
 unfold gimbalref04_Whole.f
 repeat' first
   | (with_reducible exact gimbalref02_Of.mono _ _)
   | (with_reducible exact gimbalref02_Up.mono _ _ _)
   | (with_reducible exact LeO.refl _)
   | (with_reducible exact LeO.none _)
   | (with_reducible refine LeO.ite ?_ ?_)
   | (with_reducible refine LeO.bind ?_ (fun _ => ?_))
   | exact gimbalref02_Of.mono _ _
   | exact gimbalref02_Up.mono _ _ _
   | exact LeO.none _
   | refine LeO.ite ?_ ?_
   | refine LeO.bind ?_ (fun _ => ?_)
set_option maxHeartbeats 8000000 in
set_option maxRecDepth 100000 in
theorem gimbalref04_Whole.calls (k : Nat) (a0 : Int) (r : List Int) (w : World) (h : gimbalref04_Whole.f k a0 = some r) :
  Calls Try.prog 18 #[.int .u64 a0] w fun e w' => ∃ v0_ : Value, e = .returned (v0_) ∧ Kd.R (Kd.int .i64) 3 w' w.heap.size (fun _ => True) v0_ r ∧ Below w.heap.size w w' := by
 have HB := Aside0.mk (Below.refl w.heap.size w)
 have H : ((gimbalref04_Parts.f a0).bind fun bt459 => (if bt459.2.1 = 0 then ((gimbalref02_Of.f k bt459.2.2).bind fun t462 => (some t462)) else ((gimbalref02_Of.f k (IntKind.u64.wrap (bt459.2.2 + 4503599627370496))).bind fun t465 => ((gimbalref02_Up.f k t465 (wrap64 (bt459.2.1 - 1))).bind fun t468 => (some t468))))) = some r := h
 clear h
 obtain ⟨⟨t459, t460, t461⟩, A20, H⟩ := Option.bind_eq_some_iff.mp H
 (try dsimp -simprocs only at H)
 have A2 := Aside0.mk A20
 clear A20
 by_cases c3 : t460 = 0
 ·
  rw [if_pos c3] at H
  have c3b0 : (t460 == 0) = true := beq_iff_eq.mpr c3
  have c3b1 : (t460 != 0) = false := bne_eq_false_iff_eq.mpr c3
  clear c3
  obtain ⟨t462, A40, H⟩ := Option.bind_eq_some_iff.mp H
  (try dsimp -simprocs only at H)
  have A4 := Aside0.mk A40
  clear A40
  obtain rfl := Option.some.inj H
  go_enter Try.func18, Try.ntmps18
  go_wp2_with (first | ((with_reducible refine gate_callee (f := 45) rfl ?_); refine goesL_ (some 8) rfl rfl Try.func45 (by kernel_rfl) rfl #[.int .u64 a0] rfl ga ?_; (with_reducible refine (gimbalref04_Parts.calls a0 t459 t460 t461 _ A2.out).mono ?_); rintro e w' ⟨rfl, ⟨nd, rfl⟩⟩; refine ⟨_, rfl, ?_⟩) | ((with_reducible refine gate_callee (f := 24) rfl ?_); refine goesL_ (some 15) rfl rfl Try.func24 (by kernel_rfl) rfl #[.int .u64 t461] rfl ga ?_; (with_reducible refine (gimbalref02_Of.calls k t461 t462 _ A4.out).mono ?_); rintro e w5 ⟨v463, rfl, ho0, hb⟩; refine ⟨_, rfl, ?_⟩; have n0_ := Aside0.mk (Kd.R_lower ho0 (below_size bel)); have n1_ := Aside0.mk (below_step bel hb); clear HB; have HO464 := n0_; have HB := n1_; clear n0_ n1_; (try clear hb); (try clear ho0)))
  go_ret
  exact ⟨_, er, by (with_reducible repeat (first | apply Kd.R_alloc | apply Kd.R_drewN | apply Kd.R_drew)); exact HO464.out, bel⟩
 ·
  rw [if_neg c3] at H
  have c3b0 : (t460 == 0) = false := beq_eq_false_iff_ne.mpr c3
  have c3b1 : (t460 != 0) = true := bne_iff_ne.mpr c3
  obtain ⟨t465, A60, H⟩ := Option.bind_eq_some_iff.mp H
  (try dsimp -simprocs only at H)
  have A6 := Aside0.mk A60
  clear A60
  obtain ⟨t468, A70, H⟩ := Option.bind_eq_some_iff.mp H
  (try dsimp -simprocs only at H)
  have A7 := Aside0.mk A70
  clear A70
  obtain rfl := Option.some.inj H
  go_enter Try.func18, Try.ntmps18
  go_wp2_with (first | ((with_reducible refine gate_callee (f := 45) rfl ?_); refine goesL_ (some 8) rfl rfl Try.func45 (by kernel_rfl) rfl #[.int .u64 a0] rfl ga ?_; (with_reducible refine (gimbalref04_Parts.calls a0 t459 t460 t461 _ A2.out).mono ?_); rintro e w' ⟨rfl, ⟨nd, rfl⟩⟩; refine ⟨_, rfl, ?_⟩) | ((with_reducible refine gate_callee (f := 24) rfl ?_); refine goesL_ (some 18) rfl rfl Try.func24 (by kernel_rfl) rfl #[.int .u64 (IntKind.u64.wrap (t461 + 4503599627370496))] rfl ga ?_; (with_reducible refine (gimbalref02_Of.calls k (IntKind.u64.wrap (t461 + 4503599627370496)) t465 _ A6.out).mono ?_); rintro e w8 ⟨v466, rfl, ho0, hb⟩; refine ⟨_, rfl, ?_⟩; have n0_ := Aside0.mk (Kd.R_lower ho0 (below_size bel)); have n1_ := Aside0.mk (below_step bel hb); clear HB; have HO467 := n0_; have HB := n1_; clear n0_ n1_; (try clear hb); (try clear ho0); obtain ⟨Ao9, co9, eo9⟩ := Kd.R_slice HO467.out; subst eo9) | ((with_reducible refine gate_callee (f := 19) rfl ?_); refine goesL_ (some 21) rfl rfl Try.func19 (by kernel_rfl) rfl #[.slice Ao9 t465.length co9, .int .i64 (wrap64 (t460 - 1))] rfl ga ?_; (with_reducible refine (gimbalref02_Up.calls k _ _ t465 (wrap64 (t460 - 1)) t468 _ ?side1 ?side2 A7.out).mono ?_); (case side1 => exact ks HO467); (case side2 => exact (Kd.R_reads' HO467.out).2.1); rintro e w10 ⟨v469, rfl, ho0, hb⟩; refine ⟨_, rfl, ?_⟩; have n0_ := Aside0.mk (Kd.R_elder' (kr HO467) (Kd.R_base ho0) hb); have n1_ := Aside0.mk (Kd.R_lower (Kd.R_new' ho0 (Kd.R_lt (kr HO467))) (below_size bel)); have n2_ := Aside0.mk (below_step bel hb); clear HO467; clear HB; have HO467 := n0_; have HO470 := n1_; have HB := n2_; clear n0_ n1_ n2_; (try clear hb); (try clear ho0)))
  go_ret
  exact ⟨_, er, by (with_reducible repeat (first | apply Kd.R_alloc | apply Kd.R_drewN | apply Kd.R_drew)); exact Kd.R_mono HO470.out (fun _ hk => trivial), bel⟩

end Go.Proofs.Ytcappkphcjgeoaa.F
