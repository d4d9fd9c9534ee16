-- Written by a program of this seat's session (mkprint), out of the translation.
import Derived.Test.YtkkfghecmhmdpaaShort
import Derived.Test.YtkkfghecmhmdpaaFx0
import Derived.Test.YtkkfghecmhmdpaaFx2
import Derived.Test.YtkkfghecmhmdpaaFx5
import Derived.Test.YtkkfghecmhmdpaaFx6
import Derived.Test.YtkkfghecmhmdpaaFx7
namespace Go.Proofs.Ytkkfghecmhmdpaa.F
open Go.RowKit Go.Proofs.YtkkfghecmhmdpaaW.PrintWords Go.Proofs.YtkkfghecmhmdpaaW.PrintLast Go.Proofs.YtkkfghecmhmdpaaW.PrintMore
attribute [local go_sem] max2_int min2_int max_two min_two max_three min_three max_four min_four   -- for this text's walks alone
set_option linter.unusedVariables false
set_option linter.unusedSimpArgs false

/-! ### soft_Calc_Note: function 23 -/
def soft_Calc_Note.f (s0_0 : Int) (a1 : Int) (a2 : Int) : Option (Int × Int) := (soft_Calc_note.f s0_0 a1 a2).bind fun bt293 => (some (bt293.1, bt293.2))
set_option maxHeartbeats 8000000 in
set_option maxRecDepth 100000 in
theorem soft_Calc_Note.calls (g : Nat) (s0_0 : Int) (a1 : Int) (a2 : Int) (r1 : Int) (r2 : Int) (w0 w : World) (hI : IsS27 w0 w g s0_0) (hB : Below w0.heap.size w0 w) (h : soft_Calc_Note.f s0_0 a1 a2 = some (r1, r2)) :
  Calls Try.prog 23 #[.pointer (some ⟨g, 0, none⟩), .int .u64 a1, .int .u8 a2] w fun e w' => e = .returned (.int .u64 r1) ∧ IsS27 w0 w' g r2 ∧ Below w0.heap.size w0 w' ∧ KeepBut w w' g none := by
 have HI0 := Aside0.mk hI
 have HK := Aside0.mk (KeepBut.refl w g none)
 have HL := Aside0.mk hB.size
 clear hI
 have HW0 := Aside0.mk hB.size
 have HB := Aside0.mk hB
 clear hB
 have H : ((soft_Calc_note.f s0_0 a1 a2).bind fun bt293 => (some (bt293.1, bt293.2))) = some (r1, r2) := h
 clear h
 obtain ⟨⟨t293, t294⟩, A40, H⟩ := Option.bind_eq_some_iff.mp H
 (try dsimp -simprocs only at H)
 have A4 := Aside0.mk A40
 clear A40
 simp only [Option.some.injEq, Prod.mk.injEq] at H
 obtain ⟨rfl, rfl⟩ := H
 go_enter Try.func23, Try.ntmps23
 go_wp2_with (first | ((with_reducible refine gate_callee (f := 29) rfl ?_); refine goesL_ (some 10) rfl rfl Try.func29 (by kernel_rfl) rfl #[.pointer (some ⟨g, 0, none⟩), .int .u64 a1, .int .u8 a2] rfl ga ?_; (with_reducible refine (soft_Calc_note.calls g s0_0 a1 a2 t293 t294 w0 _ ?side1 ?side2 A4.out).mono ?_); (case side1 => repeat (first | (with_reducible first | exact HI0.out | apply IsS27.alloc | apply IsS27.drewN | apply IsS27.drew | apply IsS27.set_0) | exact HI0.out)); (case side2 => repeat (first | (with_reducible first | exact HB.out | apply below_alloc | apply pw_below_drewN | apply below_drew1 | refine below_set ?_ (IsS27.ge HI0.out)) | exact HB.out)); rintro e w5 ⟨rfl, hi, hb, hk⟩; refine ⟨_, rfl, ?_⟩; refine ax3 (KeepBut.trans (by repeat (first | (with_reducible first | exact HK.out | apply KeepBut.set_ | apply keep_drewN | apply keep_drew | apply keep_alloc) | exact HK.out)) hk (.inl rfl)) hb hi ?_; clear HK; clear HB; clear HI0; intro HK HB HI0; (try clear hb)))
 go_ret
 exact ⟨er, by repeat (first | (with_reducible first | exact HI0.out | apply IsS27.alloc | apply IsS27.drewN | apply IsS27.drew | apply IsS27.set_0) | exact HI0.out), by repeat (first | (with_reducible first | exact HB.out | apply below_alloc | apply pw_below_drewN | apply below_drew1 | refine below_set ?_ (IsS27.ge HI0.out)) | exact HB.out), by repeat (first | (with_reducible first | exact HK.out | apply KeepBut.set_ | apply keep_drewN | apply keep_drew | apply keep_alloc) | exact HK.out)⟩

/-! ### vec_Nrm2: function 7 -/
def vec_Nrm2.l0 : Nat → Int → Int → List Int → Int → Int → Int → Int → Option (Int × Int)
 | 0, _, _, _, _, _, _, _ => none
 | k + 1, x5, x10, x31, x32, x33, x1000, x301000 => if x33 < x32 then (if 0 ≤ x33 then (if x33 < (x31.length : Int) then ((soft_Calc_Mul.f k x301000 (rd x31 x33) (rd x31 x33)).bind fun bt305 => ((soft_Calc_Add.f k bt305.2 x10 bt305.1).bind fun bt307 => (vec_Nrm2.l0 k x5 bt307.1 x31 x32 (wrap64 (x33 + 1)) x1000 bt307.2))) else (none)) else (none)) else ((more_Sqrt.f k x10).bind fun bt309 => ((more_Scale.f k bt309.1 x5).bind fun bt311 => ((soft_Calc_Note.f x1000 bt311.1 (Go.bits .or .u8 bt311.2 (Go.bits .and .u8 1 x301000))).bind fun bt313 => (some (bt313.1, bt313.2)))))
def vec_Nrm2.f (k : Nat) (s0_0 : Int) (l1 : List Int) : Option (Int × Int) := (vec_Power.f k l1).bind fun bt296 => (if bt296.2 = true then ((vec_Unit.f k l1 bt296.1).bind fun t301 => (vec_Nrm2.l0 k bt296.1 0 t301 (t301.length : Int) 0 s0_0 0)) else ((order_Greatest.f k l1).bind fun bt298 => (some (bt298.1, s0_0))))
theorem vec_Nrm2.mono_l : ∀ k, (∀ y0 y1 y2 y3 y4 y5 y6, LeO (vec_Nrm2.l0 k y0 y1 y2 y3 y4 y5 y6) (vec_Nrm2.l0 (k + 1) y0 y1 y2 y3 y4 y5 y6))
 | 0 => fun _ _ _ _ _ _ _ r h => by simp [vec_Nrm2.l0] at h
 | k + 1 => by
  have ih0 := vec_Nrm2.mono_l k
  ·
   intro y0 y1 y2 y3 y4 y5 y6
   unfold vec_Nrm2.l0
   repeat' with_reducible first | apply ih0 | apply more_Scale.mono | apply more_Sqrt.mono | apply order_Greatest.mono | apply soft_Calc_Add.mono | apply soft_Calc_Mul.mono | apply vec_Power.mono | apply vec_Unit.mono | exact LeO.refl _ | exact LeO.none _ | refine LeO.ite ?_ ?_ | refine LeO.bind ?_ (fun _ => ?_)
theorem vec_Nrm2.mono : ∀ a0 a1 k, LeO (vec_Nrm2.f k a0 a1) (vec_Nrm2.f (k + 1) a0 a1) := by
 intro a0 a1 k
 have ih0 := vec_Nrm2.mono_l k
 unfold vec_Nrm2.f
 repeat' with_reducible first | apply ih0 | apply more_Scale.mono | apply more_Sqrt.mono | apply order_Greatest.mono | apply soft_Calc_Add.mono | apply soft_Calc_Mul.mono | apply vec_Power.mono | apply vec_Unit.mono | exact LeO.refl _ | exact LeO.none _ | refine LeO.ite ?_ ?_ | refine LeO.bind ?_ (fun _ => ?_)
set_option maxHeartbeats 8000000 in
set_option maxRecDepth 100000 in
theorem vec_Nrm2.calls (k : Nat) (g : Nat) (s0_0 : Int) (A1 : Option Addr) (c1 : Nat) (l1 : List Int) (r1 : Int) (r2 : Int) (w0 w : World) (hI : IsS27 w0 w g s0_0) (hB : Below w0.heap.size w0 w) (hr1 : Kd.C (Kd.int .u64) w A1 l1.length l1) (hc1 : l1.length ≤ c1) (hf1 : ∀ ad, A1 = some ad → 0 < l1.length → ad.block ≠ g) (h : vec_Nrm2.f k s0_0 l1 = some (r1, r2)) :
  Calls Try.prog 7 #[.pointer (some ⟨g, 0, none⟩), .slice A1 l1.length c1] w fun e w' => e = .returned (.int .u64 r1) ∧ IsS27 w0 w' g r2 ∧ Below w0.heap.size w0 w' ∧ KeepBut w w' g none := by
 have hu27 := Try.underlying27
 have HR1 := Aside0.mk hr1
 have HC1 := Aside0.mk hc1
 clear hr1 hc1
 have HI0 := Aside0.mk hI
 have HK := Aside0.mk (KeepBut.refl w g none)
 have HL := Aside0.mk hB.size
 clear hI
 have HW0 := Aside0.mk hB.size
 have HB := Aside0.mk hB
 clear hB
 have H : ((vec_Power.f k l1).bind fun bt296 => (if bt296.2 = true then ((vec_Unit.f k l1 bt296.1).bind fun t301 => (vec_Nrm2.l0 k bt296.1 0 t301 (t301.length : Int) 0 s0_0 0)) else ((order_Greatest.f k l1).bind fun bt298 => (some (bt298.1, s0_0))))) = some (r1, r2) := h
 clear h
 obtain ⟨⟨t296, t297⟩, A30, H⟩ := Option.bind_eq_some_iff.mp H
 (try dsimp -simprocs only at H)
 have A3 := Aside0.mk A30
 clear A30
 by_cases c4 : t297 = true
 ·
  subst c4
  rw [if_pos rfl] at H
  obtain ⟨t301, A50, H⟩ := Option.bind_eq_some_iff.mp H
  (try dsimp -simprocs only at H)
  have A5 := Aside0.mk A50
  clear A50
  have H' := Aside0.mk H
  clear H
  go_enter Try.func7, Try.ntmps7
  go_wp2_with (first | ((with_reducible refine gate_callee (f := 8) rfl ?_); refine goesL_ (some 18) rfl rfl Try.func8 (by kernel_rfl) rfl #[.slice A1 l1.length c1] rfl ga ?_; (with_reducible refine (vec_Power.calls k _ _ l1 t296 true _ ?side1 ?side2 A3.out).mono ?_); (case side1 => exact Kd.C_keep 0 HR1.out (by repeat (first | (with_reducible first | exact HK.out | apply KeepBut.set_ | apply keep_drewN | apply keep_drew | apply keep_alloc) | exact HK.out)) hf1); (case side2 => exact HC1.out); rintro e w' ⟨rfl, ⟨nd, rfl⟩⟩; refine ⟨_, rfl, ?_⟩) | ((with_reducible refine gate_dst (N := 9) rfl ?_); refine gbox (N := 9) (cs := #[.int .u8 0]) (t := 27) ?_; intro gb300 hg w6 hbox hb; refine ax8 (IsS27.below (by repeat (first | (with_reducible first | exact HI0.out | apply IsS27.alloc | apply IsS27.drewN | apply IsS27.drew | apply IsS27.set_0) | exact HI0.out)) hb) (KeepBut.trans (by repeat (first | (with_reducible first | exact HK.out | apply KeepBut.set_ | apply keep_drewN | apply keep_drew | apply keep_alloc) | exact HK.out)) (KeepBut.of_below hb g none) (.inl rfl)) (below_step (by repeat (first | (with_reducible first | exact HB.out | apply below_alloc | apply pw_below_drewN | apply below_drew1 | refine below_set ?_ (IsS27.ge HI0.out)) | exact HB.out)) hb) ((by rw [hg]; exact (keep_size (w := w) (g := g) (row := none) (by repeat (first | (with_reducible first | exact HK.out | apply KeepBut.set_ | apply keep_drewN | apply keep_drew | apply keep_alloc) | exact HK.out))) : w.heap.size ≤ gb300)) ((Nat.le_trans HW0.out (by rw [hg]; exact (keep_size (w := w) (g := g) (row := none) (by repeat (first | (with_reducible first | exact HK.out | apply KeepBut.set_ | apply keep_drewN | apply keep_drew | apply keep_alloc) | exact HK.out))) : w.heap.size ≤ gb300) : w0.heap.size ≤ gb300)) ((by rw [hg]; exact Nat.ne_of_lt (IsS27.lt (show IsS27 w0 _ g s0_0 from by repeat (first | (with_reducible first | exact HI0.out | apply IsS27.alloc | apply IsS27.drewN | apply IsS27.drew | apply IsS27.set_0) | exact HI0.out))) : g ≠ gb300)) ((by rw [hg]; exact Nat.ne_of_gt (IsS27.lt (show IsS27 w0 _ g s0_0 from by repeat (first | (with_reducible first | exact HI0.out | apply IsS27.alloc | apply IsS27.drewN | apply IsS27.drew | apply IsS27.set_0) | exact HI0.out))) : gb300 ≠ g)) ((show IsS27 w0 _ gb300 0 from ⟨hbox, (Nat.le_trans HW0.out (by rw [hg]; exact (keep_size (w := w) (g := g) (row := none) (by repeat (first | (with_reducible first | exact HK.out | apply KeepBut.set_ | apply keep_drewN | apply keep_drew | apply keep_alloc) | exact HK.out))) : w.heap.size ≤ gb300) : w0.heap.size ≤ gb300)⟩)) ?_; clear HI0; clear HK; clear HB; intro HI0 HK HB GW300 GE300 NB0_300 NB300_0 HI300; clear hb hbox hg) | ((with_reducible refine gate_callee (f := 22) rfl ?_); refine goesL_ (some 31) rfl rfl Try.func22 (by kernel_rfl) rfl #[.slice A1 l1.length c1, .int .i64 t296] rfl ga ?_; (with_reducible refine (vec_Unit.calls k _ _ l1 t296 t301 _ ?side1 ?side2 A5.out).mono ?_); (case side1 => exact Kd.C_keep 0 HR1.out (by repeat (first | (with_reducible first | exact HK.out | apply KeepBut.set_ | apply keep_drewN | apply keep_drew | apply keep_alloc | refine keep_far ?_ GW300.out _) | exact HK.out)) hf1); (case side2 => exact HC1.out); rintro e w7 ⟨v302, rfl, ho0, hb⟩; refine ⟨_, rfl, ?_⟩; refine ax5 (Kd.R_lower ho0 (keep_size (w := w) (g := g) (row := none) (by repeat (first | (with_reducible first | exact HK.out | apply KeepBut.set_ | apply keep_drewN | apply keep_drew | apply keep_alloc | refine keep_far ?_ GW300.out _) | exact HK.out)))) (IsS27.below (by repeat (first | (with_reducible first | exact HI0.out | apply IsS27.alloc | apply IsS27.drewN | apply IsS27.drew | apply IsS27.set_0 | refine IsS27.far ?_ NB0_300.out _) | exact HI0.out)) hb) (IsS27.below (by repeat (first | (with_reducible first | exact HI300.out | apply IsS27.alloc | apply IsS27.drewN | apply IsS27.drew | apply IsS27.set_0 | refine IsS27.far ?_ NB300_0.out _) | exact HI300.out)) hb) (KeepBut.trans (by repeat (first | (with_reducible first | exact HK.out | apply KeepBut.set_ | apply keep_drewN | apply keep_drew | apply keep_alloc | refine keep_far ?_ GW300.out _) | exact HK.out)) (KeepBut.of_below hb g none) (.inl rfl)) (below_step (by repeat (first | (with_reducible first | exact HB.out | apply below_alloc | apply pw_below_drewN | apply below_drew1 | refine below_set ?_ (IsS27.ge HI0.out) | refine below_set ?_ (IsS27.ge HI300.out)) | exact HB.out)) hb) ?_; clear HI0; clear HI300; clear HK; clear HB; intro HO303 HI0 HI300 HK HB; (try clear hb); (try clear ho0); obtain ⟨Ao8, co8, eo8⟩ := Kd.R_slice HO303.out; subst eo8))
  go_loopg [10, 33] k (fun kq v10 v33 w' => ∃ (x10_1 : Int) (x33_1 : Int) (x301000_1 : Int), v10 = .int .u64 x10_1 ∧ v33 = .int .i64 x33_1 ∧ Aside0 (vec_Nrm2.l0 kq t296 x10_1 t301 (t301.length : Int) x33_1 s0_0 x301000_1 = some (r1, r2)) ∧ Aside0 (kq ≤ k) ∧ Aside0 (Kd.R (Kd.int .u64) 28 w' w.heap.size (fun _ => True) (.slice Ao8 t301.length co8) t301) ∧ Aside0 (IsS27 w0 w' g s0_0) ∧ Aside0 (IsS27 w0 w' gb300 x301000_1) ∧ Aside0 (KeepBut w w' g none) ∧ Aside0 (Below w0.heap.size w0 w'))
  case atStart => exact ⟨(0), (0), (0), (by first | rfl | (simp; done) | (simp [*]; done)), (by first | rfl | (simp; done) | (simp [*]; done)), H', ⟨Nat.le_refl _⟩, ⟨kr HO303⟩, ⟨by repeat (first | (with_reducible first | exact HI0.out | apply IsS27.alloc | apply IsS27.drewN | apply IsS27.drew | apply IsS27.set_0 | refine IsS27.far ?_ NB0_300.out _) | exact HI0.out)⟩, ⟨by repeat (first | (with_reducible first | exact HI300.out | apply IsS27.alloc | apply IsS27.drewN | apply IsS27.drew | apply IsS27.set_0 | refine IsS27.far ?_ NB300_0.out _) | exact HI300.out)⟩, ⟨by repeat (first | (with_reducible first | exact HK.out | apply KeepBut.set_ | apply keep_drewN | apply keep_drew | apply keep_alloc | refine keep_far ?_ GW300.out _) | exact HK.out)⟩, ⟨by repeat (first | (with_reducible first | exact HB.out | apply below_alloc | apply pw_below_drewN | apply below_drew1 | refine below_set ?_ (IsS27.ge HI0.out) | refine below_set ?_ (IsS27.ge HI300.out)) | exact HB.out)⟩⟩
  case round =>
   clear H'
   try clear c1
   try clear c2
   try clear p2
   try clear c4
   try clear c7
   try clear c8
   obtain ⟨x10_1, x33_1, x301000_1, rfl, rfl, HA, HK1, HO_31, HI0, HI300, HK, HB⟩ := hrel
   cases gk with
   | zero => exact absurd HA.out (by simp [vec_Nrm2.l0])
   | succ k1 =>
    have H := HA.out
    clear HA
    simp only [vec_Nrm2.l0] at H
    by_cases c9 : x33_1 < (t301.length : Int)
    ·
     rw [if_pos c9] at H
     have c9b0 : decide (x33_1 < (t301.length : Int)) = true := decide_eq_true c9
     clear c9
     by_cases c10 : 0 ≤ x33_1
     rotate_left
     ·
      rw [if_neg c10] at H
      exact absurd H (by simp)
     rw [if_pos c10] at H
     have c10b0 : decide (0 ≤ x33_1) = true := decide_eq_true c10
     clear c10
     by_cases c11 : x33_1 < (t301.length : Int)
     rotate_left
     ·
      rw [if_neg c11] at H
      exact absurd H (by simp)
     rw [if_pos c11] at H
     have c11b0 : decide (x33_1 < (t301.length : Int)) = true := decide_eq_true c11
     clear c11
     obtain ⟨⟨t305, t306⟩, A120, H⟩ := Option.bind_eq_some_iff.mp H
     (try dsimp -simprocs only at H)
     have A12 := Aside0.mk A120
     clear A120
     obtain ⟨⟨t307, t308⟩, A130, H⟩ := Option.bind_eq_some_iff.mp H
     (try dsimp -simprocs only at H)
     have A13 := Aside0.mk A130
     clear A130
     have H' := Aside0.mk H
     clear H
     have p304 : 0 ≤ (x33_1 : Int) := of_decide_eq_true (by first | (with_reducible assumption) | assumption)
     have q304 : x33_1 < (t301.length : Int) := of_decide_eq_true (by first | (with_reducible assumption) | assumption)
     obtain ⟨ad304, e304, hx304_0⟩ := Kd.at_int (Kd.R_reads' HO_31.out).2.2 x33_1 p304 q304
     cases e304
     replace p304 := eq_true p304
     replace q304 := eq_true q304
     go_wp2_with (first | ((with_reducible refine gate_callee (f := 12) rfl ?_); refine goesL_ (some 40) rfl rfl Try.func12 (by kernel_rfl) rfl #[.pointer (some ⟨gb300, 0, none⟩), .int .u64 (rd t301 x33_1), .int .u64 (rd t301 x33_1)] rfl ga ?_; (with_reducible refine (soft_Calc_Mul.calls k1 gb300 x301000_1 (rd t301 x33_1) (rd t301 x33_1) t305 t306 w0 _ ?side1 ?side2 A12.out).mono ?_); (case side1 => repeat (first | (with_reducible first | exact HI300.out | apply IsS27.alloc | apply IsS27.drewN | apply IsS27.drew | apply IsS27.set_0 | refine IsS27.far ?_ NB300_0.out _) | exact HI300.out)); (case side2 => repeat (first | (with_reducible first | exact HB.out | apply below_alloc | apply pw_below_drewN | apply below_drew1 | refine below_set ?_ (IsS27.ge HI0.out) | refine below_set ?_ (IsS27.ge HI300.out)) | exact HB.out)); rintro e w14 ⟨rfl, hi, hb, hk⟩; refine ⟨_, rfl, ?_⟩; refine ax5 (Kd.R_mono (Kd.R_keep (IsS27.apart (show IsS27 w0 _ gb300 x301000_1 from by repeat (first | (with_reducible first | exact HI300.out | apply IsS27.alloc | apply IsS27.drewN | apply IsS27.drew | apply IsS27.set_0 | refine IsS27.far ?_ NB300_0.out _) | exact HI300.out)) (kr HO_31) (by decide)) hk (fun _ h => h.2)) (fun _ h => h.1)) ((show IsS27 w0 _ g s0_0 from ⟨KeepBut.blk hk (show IsS27 w0 _ g s0_0 from by repeat (first | (with_reducible first | exact HI0.out | apply IsS27.alloc | apply IsS27.drewN | apply IsS27.drew | apply IsS27.set_0 | refine IsS27.far ?_ NB0_300.out _) | exact HI0.out)).1 NB0_300.out (by simp), (show IsS27 w0 _ g s0_0 from by repeat (first | (with_reducible first | exact HI0.out | apply IsS27.alloc | apply IsS27.drewN | apply IsS27.drew | apply IsS27.set_0 | refine IsS27.far ?_ NB0_300.out _) | exact HI0.out)).2⟩)) (kfar2 (by repeat (first | (with_reducible first | exact HK.out | apply KeepBut.set_ | apply keep_drewN | apply keep_drew | apply keep_alloc | refine keep_far ?_ GW300.out _) | exact HK.out)) hk GW300.out) hb hi ?_; clear HO_31; clear HI0; clear HK; clear HB; clear HI300; intro HO_31 HI0 HK HB HI300; (try clear hb)) | ((with_reducible refine gate_callee (f := 11) rfl ?_); refine goesL_ (some 41) rfl rfl Try.func11 (by kernel_rfl) rfl #[.pointer (some ⟨gb300, 0, none⟩), .int .u64 x10_1, .int .u64 t305] rfl ga ?_; (with_reducible refine (soft_Calc_Add.calls k1 gb300 t306 x10_1 t305 t307 t308 w0 _ ?side1 ?side2 A13.out).mono ?_); (case side1 => repeat (first | (with_reducible first | exact HI300.out | apply IsS27.alloc | apply IsS27.drewN | apply IsS27.drew | apply IsS27.set_0 | refine IsS27.far ?_ NB300_0.out _) | exact HI300.out)); (case side2 => repeat (first | (with_reducible first | exact HB.out | apply below_alloc | apply pw_below_drewN | apply below_drew1 | refine below_set ?_ (IsS27.ge HI0.out) | refine below_set ?_ (IsS27.ge HI300.out)) | exact HB.out)); rintro e w15 ⟨rfl, hi, hb, hk⟩; refine ⟨_, rfl, ?_⟩; refine ax5 (Kd.R_mono (Kd.R_keep (IsS27.apart (show IsS27 w0 _ gb300 t306 from by repeat (first | (with_reducible first | exact HI300.out | apply IsS27.alloc | apply IsS27.drewN | apply IsS27.drew | apply IsS27.set_0 | refine IsS27.far ?_ NB300_0.out _) | exact HI300.out)) (kr HO_31) (by decide)) hk (fun _ h => h.2)) (fun _ h => h.1)) ((show IsS27 w0 _ g s0_0 from ⟨KeepBut.blk hk (show IsS27 w0 _ g s0_0 from by repeat (first | (with_reducible first | exact HI0.out | apply IsS27.alloc | apply IsS27.drewN | apply IsS27.drew | apply IsS27.set_0 | refine IsS27.far ?_ NB0_300.out _) | exact HI0.out)).1 NB0_300.out (by simp), (show IsS27 w0 _ g s0_0 from by repeat (first | (with_reducible first | exact HI0.out | apply IsS27.alloc | apply IsS27.drewN | apply IsS27.drew | apply IsS27.set_0 | refine IsS27.far ?_ NB0_300.out _) | exact HI0.out)).2⟩)) (kfar2 (by repeat (first | (with_reducible first | exact HK.out | apply KeepBut.set_ | apply keep_drewN | apply keep_drew | apply keep_alloc | refine keep_far ?_ GW300.out _) | exact HK.out)) hk GW300.out) hb hi ?_; clear HO_31; clear HI0; clear HK; clear HB; clear HI300; intro HO_31 HI0 HK HB HI300; (try clear hb)))
     go_roundg k1
     case measure => have := HK1.out; omega
     case rel => exact ⟨(t307), (wrap64 (x33_1 + 1)), (t308), (by first | rfl | (simp; done) | (simp [*]; done)), (by first | rfl | (simp; done) | (simp [*]; done)), H', ⟨by have := HK1.out; omega⟩, ⟨kr HO_31⟩, ⟨by repeat (first | (with_reducible first | exact HI0.out | apply IsS27.alloc | apply IsS27.drewN | apply IsS27.drew | apply IsS27.set_0 | refine IsS27.far ?_ NB0_300.out _) | exact HI0.out)⟩, ⟨by repeat (first | (with_reducible first | exact HI300.out | apply IsS27.alloc | apply IsS27.drewN | apply IsS27.drew | apply IsS27.set_0 | refine IsS27.far ?_ NB300_0.out _) | exact HI300.out)⟩, ⟨by repeat (first | (with_reducible first | exact HK.out | apply KeepBut.set_ | apply keep_drewN | apply keep_drew | apply keep_alloc | refine keep_far ?_ GW300.out _) | exact HK.out)⟩, ⟨by repeat (first | (with_reducible first | exact HB.out | apply below_alloc | apply pw_below_drewN | apply below_drew1 | refine below_set ?_ (IsS27.ge HI0.out) | refine below_set ?_ (IsS27.ge HI300.out)) | exact HB.out)⟩⟩
    ·
     rw [if_neg c9] at H
     have c9b0 : decide (x33_1 < (t301.length : Int)) = false := decide_eq_false c9
     clear c9
     obtain ⟨⟨t309, t310⟩, A160, H⟩ := Option.bind_eq_some_iff.mp H
     (try dsimp -simprocs only at H)
     have A16 := Aside0.mk A160
     clear A160
     obtain ⟨⟨t311, t312⟩, A170, H⟩ := Option.bind_eq_some_iff.mp H
     (try dsimp -simprocs only at H)
     have A17 := Aside0.mk A170
     clear A170
     obtain ⟨⟨t313, t314⟩, A180, H⟩ := Option.bind_eq_some_iff.mp H
     (try dsimp -simprocs only at H)
     have A18 := Aside0.mk A180
     clear A180
     simp only [Option.some.injEq, Prod.mk.injEq] at H
     obtain ⟨rfl, rfl⟩ := H
     go_wp2_with (first | ((with_reducible refine gate_callee (f := 13) rfl ?_); refine goesL_ (some 45) rfl rfl Try.func13 (by kernel_rfl) rfl #[.int .u64 x10_1] rfl ga ?_; (with_reducible refine (more_Sqrt.calls k1 x10_1 t309 t310 _ A16.out).mono ?_); rintro e w19 ⟨rfl, hb⟩; refine ⟨_, rfl, ?_⟩; refine ax5 (Kd.R_below (kr HO_31) hb) (IsS27.below (by repeat (first | (with_reducible first | exact HI0.out | apply IsS27.alloc | apply IsS27.drewN | apply IsS27.drew | apply IsS27.set_0 | refine IsS27.far ?_ NB0_300.out _) | exact HI0.out)) hb) (IsS27.below (by repeat (first | (with_reducible first | exact HI300.out | apply IsS27.alloc | apply IsS27.drewN | apply IsS27.drew | apply IsS27.set_0 | refine IsS27.far ?_ NB300_0.out _) | exact HI300.out)) hb) (KeepBut.trans (by repeat (first | (with_reducible first | exact HK.out | apply KeepBut.set_ | apply keep_drewN | apply keep_drew | apply keep_alloc | refine keep_far ?_ GW300.out _) | exact HK.out)) (KeepBut.of_below hb g none) (.inl rfl)) (below_step (by repeat (first | (with_reducible first | exact HB.out | apply below_alloc | apply pw_below_drewN | apply below_drew1 | refine below_set ?_ (IsS27.ge HI0.out) | refine below_set ?_ (IsS27.ge HI300.out)) | exact HB.out)) hb) ?_; clear HO_31; clear HI0; clear HI300; clear HK; clear HB; intro HO_31 HI0 HI300 HK HB; (try clear hb)) | ((with_reducible refine gate_callee (f := 10) rfl ?_); refine goesL_ (some 51) rfl rfl Try.func10 (by kernel_rfl) rfl #[.int .u64 t309, .int .i64 t296] rfl ga ?_; (with_reducible refine (more_Scale.calls k1 t309 t296 t311 t312 _ A17.out).mono ?_); rintro e w20 ⟨rfl, hb⟩; refine ⟨_, rfl, ?_⟩; refine ax5 (Kd.R_below (kr HO_31) hb) (IsS27.below (by repeat (first | (with_reducible first | exact HI0.out | apply IsS27.alloc | apply IsS27.drewN | apply IsS27.drew | apply IsS27.set_0 | refine IsS27.far ?_ NB0_300.out _) | exact HI0.out)) hb) (IsS27.below (by repeat (first | (with_reducible first | exact HI300.out | apply IsS27.alloc | apply IsS27.drewN | apply IsS27.drew | apply IsS27.set_0 | refine IsS27.far ?_ NB300_0.out _) | exact HI300.out)) hb) (KeepBut.trans (by repeat (first | (with_reducible first | exact HK.out | apply KeepBut.set_ | apply keep_drewN | apply keep_drew | apply keep_alloc | refine keep_far ?_ GW300.out _) | exact HK.out)) (KeepBut.of_below hb g none) (.inl rfl)) (below_step (by repeat (first | (with_reducible first | exact HB.out | apply below_alloc | apply pw_below_drewN | apply below_drew1 | refine below_set ?_ (IsS27.ge HI0.out) | refine below_set ?_ (IsS27.ge HI300.out)) | exact HB.out)) hb) ?_; clear HO_31; clear HI0; clear HI300; clear HK; clear HB; intro HO_31 HI0 HI300 HK HB; (try clear hb); obtain ⟨HGz21, hgz21⟩ := HI300.out; have hcz21_0 := cellS27_0 HGz21; have hfz21_0 := blk_frozen HGz21 0; clear HGz21 hgz21) | ((with_reducible refine gate_callee (f := 23) rfl ?_); refine goesL_ (some 61) rfl rfl Try.func23 (by kernel_rfl) rfl #[.pointer (some ⟨g, 0, none⟩), .int .u64 t311, .int .u8 (Go.bits .or .u8 t312 (Go.bits .and .u8 1 x301000_1))] rfl ga ?_; (with_reducible refine (soft_Calc_Note.calls g s0_0 t311 (Go.bits .or .u8 t312 (Go.bits .and .u8 1 x301000_1)) t313 t314 w0 _ ?side1 ?side2 A18.out).mono ?_); (case side1 => repeat (first | (with_reducible first | exact HI0.out | apply IsS27.alloc | apply IsS27.drewN | apply IsS27.drew | apply IsS27.set_0 | refine IsS27.far ?_ NB0_300.out _) | exact HI0.out)); (case side2 => repeat (first | (with_reducible first | exact HB.out | apply below_alloc | apply pw_below_drewN | apply below_drew1 | refine below_set ?_ (IsS27.ge HI0.out) | refine below_set ?_ (IsS27.ge HI300.out)) | exact HB.out)); rintro e w22 ⟨rfl, hi, hb, hk⟩; refine ⟨_, rfl, ?_⟩; refine ax5 (Kd.R_mono (Kd.R_keep (IsS27.apart (show IsS27 w0 _ g s0_0 from by repeat (first | (with_reducible first | exact HI0.out | apply IsS27.alloc | apply IsS27.drewN | apply IsS27.drew | apply IsS27.set_0 | refine IsS27.far ?_ NB0_300.out _) | exact HI0.out)) (kr HO_31) (by decide)) hk (fun _ h => h.2)) (fun _ h => h.1)) ((show IsS27 w0 _ gb300 x301000_1 from ⟨KeepBut.blk hk (show IsS27 w0 _ gb300 x301000_1 from by repeat (first | (with_reducible first | exact HI300.out | apply IsS27.alloc | apply IsS27.drewN | apply IsS27.drew | apply IsS27.set_0 | refine IsS27.far ?_ NB300_0.out _) | exact HI300.out)).1 NB300_0.out (by simp), (show IsS27 w0 _ gb300 x301000_1 from by repeat (first | (with_reducible first | exact HI300.out | apply IsS27.alloc | apply IsS27.drewN | apply IsS27.drew | apply IsS27.set_0 | refine IsS27.far ?_ NB300_0.out _) | exact HI300.out)).2⟩)) (KeepBut.trans (by repeat (first | (with_reducible first | exact HK.out | apply KeepBut.set_ | apply keep_drewN | apply keep_drew | apply keep_alloc | refine keep_far ?_ GW300.out _) | exact HK.out)) hk (.inl rfl)) hb hi ?_; clear HO_31; clear HI300; clear HK; clear HB; clear HI0; intro HO_31 HI300 HK HB HI0; (try clear hb)))
     go_ret
     exact ⟨er, by repeat (first | (with_reducible first | exact HI0.out | apply IsS27.alloc | apply IsS27.drewN | apply IsS27.drew | apply IsS27.set_0 | refine IsS27.far ?_ NB0_300.out _) | exact HI0.out), by repeat (first | (with_reducible first | exact HB.out | apply below_alloc | apply pw_below_drewN | apply below_drew1 | refine below_set ?_ (IsS27.ge HI0.out) | refine below_set ?_ (IsS27.ge HI300.out)) | exact HB.out), by repeat (first | (with_reducible first | exact HK.out | apply KeepBut.set_ | apply keep_drewN | apply keep_drew | apply keep_alloc | refine keep_far ?_ GW300.out _) | exact HK.out)⟩
 ·
  replace c4 := Bool.eq_false_iff.mpr c4
  subst c4
  rw [if_neg (show ¬ (false = true) by decide)] at H
  obtain ⟨⟨t298, t299⟩, A230, H⟩ := Option.bind_eq_some_iff.mp H
  (try dsimp -simprocs only at H)
  have A23 := Aside0.mk A230
  clear A230
  simp only [Option.some.injEq, Prod.mk.injEq] at H
  obtain ⟨rfl, rfl⟩ := H
  go_enter Try.func7, Try.ntmps7
  go_wp2_with (first | ((with_reducible refine gate_callee (f := 8) rfl ?_); refine goesL_ (some 18) rfl rfl Try.func8 (by kernel_rfl) rfl #[.slice A1 l1.length c1] rfl ga ?_; (with_reducible refine (vec_Power.calls k _ _ l1 t296 false _ ?side1 ?side2 A3.out).mono ?_); (case side1 => exact Kd.C_keep 0 HR1.out (by repeat (first | (with_reducible first | exact HK.out | apply KeepBut.set_ | apply keep_drewN | apply keep_drew | apply keep_alloc) | exact HK.out)) hf1); (case side2 => exact HC1.out); rintro e w' ⟨rfl, ⟨nd, rfl⟩⟩; refine ⟨_, rfl, ?_⟩) | ((with_reducible refine gate_callee (f := 9) rfl ?_); refine goesL_ (some 25) rfl rfl Try.func9 (by kernel_rfl) rfl #[.slice A1 l1.length c1] rfl ga ?_; (with_reducible refine (order_Greatest.calls k _ _ l1 t298 t299 _ ?side1 ?side2 A23.out).mono ?_); (case side1 => exact Kd.C_keep 0 HR1.out (by repeat (first | (with_reducible first | exact HK.out | apply KeepBut.set_ | apply keep_drewN | apply keep_drew | apply keep_alloc) | exact HK.out)) hf1); (case side2 => exact HC1.out); rintro e w' ⟨rfl, ⟨nd, rfl⟩⟩; refine ⟨_, rfl, ?_⟩))
  go_ret
  exact ⟨er, by repeat (first | (with_reducible first | exact HI0.out | apply IsS27.alloc | apply IsS27.drewN | apply IsS27.drew | apply IsS27.set_0) | exact HI0.out), by repeat (first | (with_reducible first | exact HB.out | apply below_alloc | apply pw_below_drewN | apply below_drew1 | refine below_set ?_ (IsS27.ge HI0.out)) | exact HB.out), by repeat (first | (with_reducible first | exact HK.out | apply KeepBut.set_ | apply keep_drewN | apply keep_drew | apply keep_alloc) | exact HK.out)⟩

end Go.Proofs.Ytkkfghecmhmdpaa.F
