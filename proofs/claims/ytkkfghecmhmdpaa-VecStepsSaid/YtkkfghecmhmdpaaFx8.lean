-- Written by a program of this seat's session (mkprint), out of the translation.
import Derived.Test.YtkkfghecmhmdpaaShort
import Derived.Test.YtkkfghecmhmdpaaFx0
import Derived.Test.YtkkfghecmhmdpaaFx2
import Derived.Test.YtkkfghecmhmdpaaFx5
import Derived.Test.YtkkfghecmhmdpaaFx6
import Derived.Test.YtkkfghecmhmdpaaFx7
namespace Go.Proofs.Ytkkfghecmhmdpaa.F
open Go.RowKit Go.Proofs.YtkkfghecmhmdpaaW.PrintWords Go.Proofs.YtkkfghecmhmdpaaW.PrintLast Go.Proofs.YtkkfghecmhmdpaaW.PrintMore
attribute [local go_sem] max2_int min2_int max_two min_two max_three min_three max_four min_four   -- for this text's walks alone
set_option linter.unusedVariables false
set_option linter.unusedSimpArgs false

/-! ### vec_Nrm2_nil: function 7 -/
def vec_Nrm2_nil.l0 : Nat → Int → Int → List Int → Int → Int → Int → Option (Int)
 | 0, _, _, _, _, _, _ => none
 | k + 1, x5, x10, x31, x32, x33, x320000 => if x33 < x32 then (if 0 ≤ x33 then (if x33 < (x31.length : Int) then ((soft_Calc_Mul.f k x320000 (rd x31 x33) (rd x31 x33)).bind fun bt324 => ((soft_Calc_Add.f k bt324.2 x10 bt324.1).bind fun bt326 => (vec_Nrm2_nil.l0 k x5 bt326.1 x31 x32 (wrap64 (x33 + 1)) bt326.2))) else (none)) else (none)) else ((more_Sqrt.f k x10).bind fun bt328 => ((more_Scale.f k bt328.1 x5).bind fun bt330 => ((soft_Calc_Note_nil.f bt330.1 (Go.bits .or .u8 bt330.2 (Go.bits .and .u8 1 x320000))).bind fun t332 => (some t332))))
def vec_Nrm2_nil.f (k : Nat)  (l1 : List Int) : Option (Int) := (vec_Power.f k l1).bind fun bt315 => (if bt315.2 = true then ((vec_Unit.f k l1 bt315.1).bind fun t320 => (vec_Nrm2_nil.l0 k bt315.1 0 t320 (t320.length : Int) 0 0)) else ((order_Greatest.f k l1).bind fun bt317 => (some bt317.1)))
theorem vec_Nrm2_nil.mono_l : ∀ k, (∀ y0 y1 y2 y3 y4 y5, LeO (vec_Nrm2_nil.l0 k y0 y1 y2 y3 y4 y5) (vec_Nrm2_nil.l0 (k + 1) y0 y1 y2 y3 y4 y5))
 | 0 => fun _ _ _ _ _ _ r h => by simp [vec_Nrm2_nil.l0] at h
 | k + 1 => by
  have ih0 := vec_Nrm2_nil.mono_l k
  ·
   intro y0 y1 y2 y3 y4 y5
   unfold vec_Nrm2_nil.l0
   repeat' with_reducible first | apply ih0 | apply more_Scale.mono | apply more_Sqrt.mono | apply order_Greatest.mono | apply soft_Calc_Add.mono | apply soft_Calc_Mul.mono | apply vec_Power.mono | apply vec_Unit.mono | exact LeO.refl _ | exact LeO.none _ | refine LeO.ite ?_ ?_ | refine LeO.bind ?_ (fun _ => ?_)
theorem vec_Nrm2_nil.mono : ∀ a0 k, LeO (vec_Nrm2_nil.f k a0) (vec_Nrm2_nil.f (k + 1) a0) := by
 intro a0 k
 have ih0 := vec_Nrm2_nil.mono_l k
 unfold vec_Nrm2_nil.f
 repeat' with_reducible first | apply ih0 | apply more_Scale.mono | apply more_Sqrt.mono | apply order_Greatest.mono | apply soft_Calc_Add.mono | apply soft_Calc_Mul.mono | apply vec_Power.mono | apply vec_Unit.mono | exact LeO.refl _ | exact LeO.none _ | refine LeO.ite ?_ ?_ | refine LeO.bind ?_ (fun _ => ?_)
set_option maxHeartbeats 8000000 in
set_option maxRecDepth 100000 in
theorem vec_Nrm2_nil.calls (k : Nat)  (A1 : Option Addr) (c1 : Nat) (l1 : List Int) (r : Int) (w : World) (hr1 : Kd.C (Kd.int .u64) w A1 l1.length l1) (hc1 : l1.length ≤ c1) (h : vec_Nrm2_nil.f k l1 = some r) :
  Calls Try.prog 7 #[.pointer none, .slice A1 l1.length c1] w fun e w' => e = .returned (.int .u64 r) ∧ Below w.heap.size w w' := by
 have hu27 := Try.underlying27
 have HR1 := Aside0.mk hr1
 have HC1 := Aside0.mk hc1
 clear hr1 hc1
 have HB := Aside0.mk (Below.refl w.heap.size w)
 have H : ((vec_Power.f k l1).bind fun bt315 => (if bt315.2 = true then ((vec_Unit.f k l1 bt315.1).bind fun t320 => (vec_Nrm2_nil.l0 k bt315.1 0 t320 (t320.length : Int) 0 0)) else ((order_Greatest.f k l1).bind fun bt317 => (some bt317.1)))) = some r := h
 clear h
 obtain ⟨⟨t315, t316⟩, A30, H⟩ := Option.bind_eq_some_iff.mp H
 (try dsimp -simprocs only at H)
 have A3 := Aside0.mk A30
 clear A30
 by_cases c4 : t316 = true
 rotate_left
 ·
  replace c4 := Bool.eq_false_iff.mpr c4
  subst c4
  rw [if_neg (show ¬ (false = true) by decide)] at H
  obtain ⟨⟨t317, t318⟩, A220, H⟩ := Option.bind_eq_some_iff.mp H
  (try dsimp -simprocs only at H)
  have A22 := Aside0.mk A220
  clear A220
  obtain rfl := Option.some.inj H
  go_enter Try.func7, Try.ntmps7
  go_wp2_with (first | ((with_reducible refine gate_callee (f := 8) rfl ?_); refine goesL_ (some 18) rfl rfl Try.func8 (by kernel_rfl) rfl #[.slice A1 l1.length c1] rfl ga ?_; (with_reducible refine (vec_Power.calls k _ _ l1 t315 false _ ?side1 ?side2 A3.out).mono ?_); (case side1 => repeat (first | exact HR1.out | (with_reducible refine Kd.C_alloc ?_ _) | (with_reducible refine Kd.C_drewN ?_ _) | (with_reducible refine Kd.C_drew ?_))); (case side2 => exact HC1.out); rintro e w' ⟨rfl, ⟨nd, rfl⟩⟩; refine ⟨_, rfl, ?_⟩) | ((with_reducible refine gate_callee (f := 9) rfl ?_); refine goesL_ (some 25) rfl rfl Try.func9 (by kernel_rfl) rfl #[.slice A1 l1.length c1] rfl ga ?_; (with_reducible refine (order_Greatest.calls k _ _ l1 t317 t318 _ ?side1 ?side2 A22.out).mono ?_); (case side1 => repeat (first | exact HR1.out | (with_reducible refine Kd.C_alloc ?_ _) | (with_reducible refine Kd.C_drewN ?_ _) | (with_reducible refine Kd.C_drew ?_))); (case side2 => exact HC1.out); rintro e w' ⟨rfl, ⟨nd, rfl⟩⟩; refine ⟨_, rfl, ?_⟩))
  go_ret
  exact ⟨er, bel⟩

 subst c4
 rw [if_pos rfl] at H
 obtain ⟨t320, A50, H⟩ := Option.bind_eq_some_iff.mp H
 (try dsimp -simprocs only at H)
 have A5 := Aside0.mk A50
 clear A50
 have H' := Aside0.mk H
 clear H
 go_enter Try.func7, Try.ntmps7
 go_wp2_with (first | ((with_reducible refine gate_callee (f := 8) rfl ?_); refine goesL_ (some 18) rfl rfl Try.func8 (by kernel_rfl) rfl #[.slice A1 l1.length c1] rfl ga ?_; (with_reducible refine (vec_Power.calls k _ _ l1 t315 true _ ?side1 ?side2 A3.out).mono ?_); (case side1 => repeat (first | exact HR1.out | (with_reducible refine Kd.C_alloc ?_ _) | (with_reducible refine Kd.C_drewN ?_ _) | (with_reducible refine Kd.C_drew ?_))); (case side2 => exact HC1.out); rintro e w' ⟨rfl, ⟨nd, rfl⟩⟩; refine ⟨_, rfl, ?_⟩) | ((with_reducible refine gate_dst (N := 9) rfl ?_); refine gbox (N := 9) (cs := #[.int .u8 0]) (t := 27) ?_; intro gb319 hg w6 hbox hb; refine ax4 (below_step bel hb) ((ge hg : w.heap.size ≤ gb319)) ((ge hg : w.heap.size ≤ gb319)) ((show IsS27 w _ gb319 0 from ⟨hbox, (ge hg : w.heap.size ≤ gb319)⟩)) ?_; clear HB; intro HB GW319 GE319 HI319; clear hb hbox hg) | ((with_reducible refine gate_callee (f := 22) rfl ?_); refine goesL_ (some 31) rfl rfl Try.func22 (by kernel_rfl) rfl #[.slice A1 l1.length c1, .int .i64 t315] rfl ga ?_; (with_reducible refine (vec_Unit.calls k _ _ l1 t315 t320 _ ?side1 ?side2 A5.out).mono ?_); (case side1 => repeat (first | exact (Kd.C_below HR1.out HB.out) | (with_reducible refine Kd.C_alloc ?_ _) | (with_reducible refine Kd.C_drewN ?_ _) | (with_reducible refine Kd.C_drew ?_))); (case side2 => exact HC1.out); rintro e w7 ⟨v321, rfl, ho0, hb⟩; refine ⟨_, rfl, ?_⟩; refine ax3 (Kd.R_lower ho0 (below_size (by repeat (first | (with_reducible first | exact HB.out | apply below_alloc | apply pw_below_drewN | apply below_drew1 | refine below_set ?_ (IsS27.ge HI319.out)) | exact HB.out)))) (IsS27.below (by repeat (first | (with_reducible first | exact HI319.out | apply IsS27.alloc | apply IsS27.drewN | apply IsS27.drew | apply IsS27.set_0) | exact HI319.out)) hb) (below_step (by repeat (first | (with_reducible first | exact HB.out | apply below_alloc | apply pw_below_drewN | apply below_drew1 | refine below_set ?_ (IsS27.ge HI319.out)) | exact HB.out)) hb) ?_; clear HI319; clear HB; intro HO322 HI319 HB; (try clear hb); (try clear ho0); obtain ⟨Ao8, co8, eo8⟩ := Kd.R_slice HO322.out; subst eo8))
 go_loopg [10, 33] k (fun kq v10 v33 w' => ∃ (x10_1 : Int) (x33_1 : Int) (x320000_1 : Int), v10 = .int .u64 x10_1 ∧ v33 = .int .i64 x33_1 ∧ Aside0 (vec_Nrm2_nil.l0 kq t315 x10_1 t320 (t320.length : Int) x33_1 x320000_1 = some r) ∧ Aside0 (kq ≤ k) ∧ Aside0 (Kd.R (Kd.int .u64) 28 w' w.heap.size (fun _ => True) (.slice Ao8 t320.length co8) t320) ∧ Aside0 (IsS27 w w' gb319 x320000_1) ∧ Aside0 (Below w.heap.size w w'))
 case atStart => exact ⟨(0), (0), (0), (by first | rfl | (simp; done) | (simp [*]; done)), (by first | rfl | (simp; done) | (simp [*]; done)), H', ⟨Nat.le_refl _⟩, ⟨kr HO322⟩, ⟨by repeat (first | (with_reducible first | exact HI319.out | apply IsS27.alloc | apply IsS27.drewN | apply IsS27.drew | apply IsS27.set_0) | exact HI319.out)⟩, ⟨by repeat (first | (with_reducible first | exact HB.out | apply below_alloc | apply pw_below_drewN | apply below_drew1 | refine below_set ?_ (IsS27.ge HI319.out)) | exact HB.out)⟩⟩
 case round =>
  clear H'
  try clear c1
  try clear c2
  try clear p2
  try clear c4
  try clear c7
  try clear c8
  obtain ⟨x10_1, x33_1, x320000_1, rfl, rfl, HA, HK1, HO_31, HI319, HB⟩ := hrel
  cases gk with
  | zero => exact absurd HA.out (by simp [vec_Nrm2_nil.l0])
  | succ k1 =>
   have H := HA.out
   clear HA
   simp only [vec_Nrm2_nil.l0] at H
   by_cases c9 : x33_1 < (t320.length : Int)
   ·
    rw [if_pos c9] at H
    have c9b0 : decide (x33_1 < (t320.length : Int)) = true := decide_eq_true c9
    clear c9
    by_cases c10 : 0 ≤ x33_1
    rotate_left
    ·
     rw [if_neg c10] at H
     exact absurd H (by simp)
    rw [if_pos c10] at H
    have c10b0 : decide (0 ≤ x33_1) = true := decide_eq_true c10
    clear c10
    by_cases c11 : x33_1 < (t320.length : Int)
    rotate_left
    ·
     rw [if_neg c11] at H
     exact absurd H (by simp)
    rw [if_pos c11] at H
    have c11b0 : decide (x33_1 < (t320.length : Int)) = true := decide_eq_true c11
    clear c11
    obtain ⟨⟨t324, t325⟩, A120, H⟩ := Option.bind_eq_some_iff.mp H
    (try dsimp -simprocs only at H)
    have A12 := Aside0.mk A120
    clear A120
    obtain ⟨⟨t326, t327⟩, A130, H⟩ := Option.bind_eq_some_iff.mp H
    (try dsimp -simprocs only at H)
    have A13 := Aside0.mk A130
    clear A130
    have H' := Aside0.mk H
    clear H
    have p323 : 0 ≤ (x33_1 : Int) := of_decide_eq_true (by first | (with_reducible assumption) | assumption)
    have q323 : x33_1 < (t320.length : Int) := of_decide_eq_true (by first | (with_reducible assumption) | assumption)
    obtain ⟨ad323, e323, hx323_0⟩ := Kd.at_int (Kd.R_reads' HO_31.out).2.2 x33_1 p323 q323
    cases e323
    replace p323 := eq_true p323
    replace q323 := eq_true q323
    go_wp2_with (first | ((with_reducible refine gate_callee (f := 12) rfl ?_); refine goesL_ (some 40) rfl rfl Try.func12 (by kernel_rfl) rfl #[.pointer (some ⟨gb319, 0, none⟩), .int .u64 (rd t320 x33_1), .int .u64 (rd t320 x33_1)] rfl ga ?_; (with_reducible refine (soft_Calc_Mul.calls k1 gb319 x320000_1 (rd t320 x33_1) (rd t320 x33_1) t324 t325 w _ ?side1 ?side2 A12.out).mono ?_); (case side1 => repeat (first | (with_reducible first | exact HI319.out | apply IsS27.alloc | apply IsS27.drewN | apply IsS27.drew | apply IsS27.set_0) | exact HI319.out)); (case side2 => repeat (first | (with_reducible first | exact HB.out | apply below_alloc | apply pw_below_drewN | apply below_drew1 | refine below_set ?_ (IsS27.ge HI319.out)) | exact HB.out)); rintro e w14 ⟨rfl, hi, hb, hk⟩; refine ⟨_, rfl, ?_⟩; refine ax3 (Kd.R_mono (Kd.R_keep (IsS27.apart (show IsS27 w _ gb319 x320000_1 from by repeat (first | (with_reducible first | exact HI319.out | apply IsS27.alloc | apply IsS27.drewN | apply IsS27.drew | apply IsS27.set_0) | exact HI319.out)) (kr HO_31) (by decide)) hk (fun _ h => h.2)) (fun _ h => h.1)) hb hi ?_; clear HO_31; clear HB; clear HI319; intro HO_31 HB HI319; (try clear hb)) | ((with_reducible refine gate_callee (f := 11) rfl ?_); refine goesL_ (some 41) rfl rfl Try.func11 (by kernel_rfl) rfl #[.pointer (some ⟨gb319, 0, none⟩), .int .u64 x10_1, .int .u64 t324] rfl ga ?_; (with_reducible refine (soft_Calc_Add.calls k1 gb319 t325 x10_1 t324 t326 t327 w _ ?side1 ?side2 A13.out).mono ?_); (case side1 => repeat (first | (with_reducible first | exact HI319.out | apply IsS27.alloc | apply IsS27.drewN | apply IsS27.drew | apply IsS27.set_0) | exact HI319.out)); (case side2 => repeat (first | (with_reducible first | exact HB.out | apply below_alloc | apply pw_below_drewN | apply below_drew1 | refine below_set ?_ (IsS27.ge HI319.out)) | exact HB.out)); rintro e w15 ⟨rfl, hi, hb, hk⟩; refine ⟨_, rfl, ?_⟩; refine ax3 (Kd.R_mono (Kd.R_keep (IsS27.apart (show IsS27 w _ gb319 t325 from by repeat (first | (with_reducible first | exact HI319.out | apply IsS27.alloc | apply IsS27.drewN | apply IsS27.drew | apply IsS27.set_0) | exact HI319.out)) (kr HO_31) (by decide)) hk (fun _ h => h.2)) (fun _ h => h.1)) hb hi ?_; clear HO_31; clear HB; clear HI319; intro HO_31 HB HI319; (try clear hb)))
    go_roundg k1
    case measure => have := HK1.out; omega
    case rel => exact ⟨(t326), (wrap64 (x33_1 + 1)), (t327), (by first | rfl | (simp; done) | (simp [*]; done)), (by first | rfl | (simp; done) | (simp [*]; done)), H', ⟨by have := HK1.out; omega⟩, ⟨kr HO_31⟩, ⟨by repeat (first | (with_reducible first | exact HI319.out | apply IsS27.alloc | apply IsS27.drewN | apply IsS27.drew | apply IsS27.set_0) | exact HI319.out)⟩, ⟨by repeat (first | (with_reducible first | exact HB.out | apply below_alloc | apply pw_below_drewN | apply below_drew1 | refine below_set ?_ (IsS27.ge HI319.out)) | exact HB.out)⟩⟩
   ·
    rw [if_neg c9] at H
    have c9b0 : decide (x33_1 < (t320.length : Int)) = false := decide_eq_false c9
    clear c9
    obtain ⟨⟨t328, t329⟩, A160, H⟩ := Option.bind_eq_some_iff.mp H
    (try dsimp -simprocs only at H)
    have A16 := Aside0.mk A160
    clear A160
    obtain ⟨⟨t330, t331⟩, A170, H⟩ := Option.bind_eq_some_iff.mp H
    (try dsimp -simprocs only at H)
    have A17 := Aside0.mk A170
    clear A170
    obtain ⟨t332, A180, H⟩ := Option.bind_eq_some_iff.mp H
    (try dsimp -simprocs only at H)
    have A18 := Aside0.mk A180
    clear A180
    obtain rfl := Option.some.inj H
    go_wp2_with (first | ((with_reducible refine gate_callee (f := 13) rfl ?_); refine goesL_ (some 45) rfl rfl Try.func13 (by kernel_rfl) rfl #[.int .u64 x10_1] rfl ga ?_; (with_reducible refine (more_Sqrt.calls k1 x10_1 t328 t329 _ A16.out).mono ?_); rintro e w19 ⟨rfl, hb⟩; refine ⟨_, rfl, ?_⟩; refine ax3 (Kd.R_below (kr HO_31) hb) (IsS27.below (by repeat (first | (with_reducible first | exact HI319.out | apply IsS27.alloc | apply IsS27.drewN | apply IsS27.drew | apply IsS27.set_0) | exact HI319.out)) hb) (below_step (by repeat (first | (with_reducible first | exact HB.out | apply below_alloc | apply pw_below_drewN | apply below_drew1 | refine below_set ?_ (IsS27.ge HI319.out)) | exact HB.out)) hb) ?_; clear HO_31; clear HI319; clear HB; intro HO_31 HI319 HB; (try clear hb)) | ((with_reducible refine gate_callee (f := 10) rfl ?_); refine goesL_ (some 51) rfl rfl Try.func10 (by kernel_rfl) rfl #[.int .u64 t328, .int .i64 t315] rfl ga ?_; (with_reducible refine (more_Scale.calls k1 t328 t315 t330 t331 _ A17.out).mono ?_); rintro e w20 ⟨rfl, hb⟩; refine ⟨_, rfl, ?_⟩; refine ax3 (Kd.R_below (kr HO_31) hb) (IsS27.below (by repeat (first | (with_reducible first | exact HI319.out | apply IsS27.alloc | apply IsS27.drewN | apply IsS27.drew | apply IsS27.set_0) | exact HI319.out)) hb) (below_step (by repeat (first | (with_reducible first | exact HB.out | apply below_alloc | apply pw_below_drewN | apply below_drew1 | refine below_set ?_ (IsS27.ge HI319.out)) | exact HB.out)) hb) ?_; clear HO_31; clear HI319; clear HB; intro HO_31 HI319 HB; (try clear hb); obtain ⟨HGz21, hgz21⟩ := HI319.out; have hcz21_0 := cellS27_0 HGz21; have hfz21_0 := blk_frozen HGz21 0; clear HGz21 hgz21) | ((with_reducible refine gate_callee (f := 23) rfl ?_); refine goesL_ (some 61) rfl rfl Try.func23 (by kernel_rfl) rfl #[.pointer none, .int .u64 t330, .int .u8 (Go.bits .or .u8 t331 (Go.bits .and .u8 1 x320000_1))] rfl ga ?_; (with_reducible refine (soft_Calc_Note_nil.calls  t330 (Go.bits .or .u8 t331 (Go.bits .and .u8 1 x320000_1)) t332 _ A18.out).mono ?_); rintro e w' ⟨rfl, ⟨nd, rfl⟩⟩; refine ⟨_, rfl, ?_⟩))
    go_ret
    exact ⟨er, by repeat (first | (with_reducible first | exact HB.out | apply below_alloc | apply pw_below_drewN | apply below_drew1 | refine below_set ?_ (IsS27.ge HI319.out)) | exact HB.out)⟩
/-! ### gimballaw10_head: function 6 -/
def gimballaw10_head.f (k : Nat)  : Option (Bool) := (vec_Nrm2_nil.f k (([4613937818241073152, 4616189618054758400] : List Int))).bind fun t336 => (some (t336 == 4617315517961601024))
theorem gimballaw10_head.mono : ∀ k, LeO (gimballaw10_head.f k ) (gimballaw10_head.f (k + 1) ) := by
 intro  k
 unfold gimballaw10_head.f
 repeat' with_reducible first | apply vec_Nrm2_nil.mono | exact LeO.refl _ | exact LeO.none _ | refine LeO.ite ?_ ?_ | refine LeO.bind ?_ (fun _ => ?_)
set_option maxHeartbeats 8000000 in
set_option maxRecDepth 100000 in
theorem gimballaw10_head.calls (k : Nat)  (r : Bool) (w : World) (h : gimballaw10_head.f k  = some r) :
  Calls Try.prog 6 #[] w fun e w' => e = .returned (.bool r) ∧ Below w.heap.size w w' := by
 have HB := Aside0.mk (Below.refl w.heap.size w)
 have H : ((vec_Nrm2_nil.f k (([4613937818241073152, 4616189618054758400] : List Int))).bind fun t336 => (some (t336 == 4617315517961601024))) = some r := h
 clear h
 obtain ⟨y333, hy333⟩ : ∃ y_ : List Int, y_ = (([4613937818241073152, 4616189618054758400] : List Int)) := ⟨_, rfl⟩
 replace H : ((vec_Nrm2_nil.f k y333).bind fun t336 => (some (t336 == 4617315517961601024))) = some r := by first | (rw [hy333]; with_reducible exact H) | (have H2_ := (Option.bind_some _ _).symm.trans H; rw [hy333]; with_reducible exact H2_) | (have H2_ := (Option.bind_some _ _).symm.trans H; with_reducible exact H2_) | with_reducible exact H | (rw [hy333]; exact H) | exact H
 have Ny333 := Aside0.mk hy333
 clear hy333
 obtain ⟨t336, A10, H⟩ := Option.bind_eq_some_iff.mp H
 (try dsimp -simprocs only at H)
 have A1 := Aside0.mk A10
 clear A10
 obtain rfl := Option.some.inj H
 go_enter Try.func6, Try.ntmps6
 go_wp2_with (first | ((with_reducible refine gate_dst (N := 1) rfl ?_); refine Kd.R_lit (Kd.int .u64) _ 28 ?hg (N := 1) ?hd (xs := ([4613937818241073152, 4616189618054758400] : List Int)) (inner := [.int .u64 4613937818241073152, .int .u64 4616189618054758400]) (ok := fun _ => True) (okp := fun _ => True) ?hr ?hp (fun _ hk => hk) trivial (Below.refl _ _) (Nat.le_refl _) (by simp) ?_; (case hd => rfl); (case hg => rfl); (case hr => first | (go_simp; done) | (go_simp; rfl)); (case hp => exact (Reps.one (show Kd.M (Kd.int .u64) _ _ _ 4613937818241073152 [.int .u64 4613937818241073152] from rfl) (Reps.one (show Kd.M (Kd.int .u64) _ _ _ 4616189618054758400 [.int .u64 4616189618054758400] from rfl) (Reps.none _ _)))); intro v334 w2 ho3 hb hg_ hnew_; clear hg_ hnew_; (first | rw [← Ny333.out] at ho3 | (simp only [Int.reduceToNat] at ho3; rw [← Ny333.out] at ho3)); refine ax2 (Kd.R_lower ho3 (below_size bel)) (below_step bel hb) ?_; clear HB; intro HO335 HB; clear hb ho3; obtain ⟨Ao4, co4, eo4⟩ := Kd.R_slice HO335.out; subst eo4) | ((with_reducible refine gate_callee (f := 7) rfl ?_); refine goesL_ (some 2) rfl rfl Try.func7 (by kernel_rfl) rfl #[.pointer none, .slice Ao4 y333.length co4] rfl ga ?_; (with_reducible refine (vec_Nrm2_nil.calls k  _ _ y333 t336 _ ?side1 ?side2 A1.out).mono ?_); (case side1 => exact ks HO335); (case side2 => exact (Kd.R_reads' HO335.out).2.1); rintro e w5 ⟨rfl, hb⟩; refine ⟨_, rfl, ?_⟩; refine ax2 (Kd.R_below (kr HO335) hb) (below_step bel hb) ?_; clear HO335; clear HB; intro HO335 HB; (try clear hb)))
 go_ret
 exact ⟨er, bel⟩

end Go.Proofs.Ytkkfghecmhmdpaa.F
