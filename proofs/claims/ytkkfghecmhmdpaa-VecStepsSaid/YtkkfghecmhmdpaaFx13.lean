-- Written by a program of this seat's session (mkprint), out of the translation.
import Derived.Test.YtkkfghecmhmdpaaShort
import Derived.Test.YtkkfghecmhmdpaaFx0
import Derived.Test.YtkkfghecmhmdpaaFx2
import Derived.Test.YtkkfghecmhmdpaaFx5
import Derived.Test.YtkkfghecmhmdpaaFx6
import Derived.Test.YtkkfghecmhmdpaaFx7
import Derived.Test.YtkkfghecmhmdpaaFx12
namespace Go.Proofs.Ytkkfghecmhmdpaa.F
open Go.RowKit Go.Proofs.YtkkfghecmhmdpaaW.PrintWords Go.Proofs.YtkkfghecmhmdpaaW.PrintLast Go.Proofs.YtkkfghecmhmdpaaW.PrintMore
attribute [local go_sem] max2_int min2_int max_two min_two max_three min_three max_four min_four   -- for this text's walks alone
set_option linter.unusedVariables false
set_option linter.unusedSimpArgs false

/-! ### vec_Rot: function 17 -/
def vec_Rot.l0 : Nat → List Int → List Int → Int → Int → List Int → List Int → Int → Int → Int → Option (List Int × List Int × Int × Int)
 | 0, _, _, _, _, _, _, _, _, _ => none
 | k + 1, x1, x2, x3, x4, x13, x14, x22, x23, x1000 => if x23 < x22 then (if 0 ≤ x23 then (if x23 < (x1.length : Int) then ((soft_Calc_Mul.f k x1000 x3 (rd x1 x23)).bind fun bt413 => (if x23 < (x2.length : Int) then ((soft_Calc_Mul.f k bt413.2 x4 (rd x2 x23)).bind fun bt416 => ((soft_Calc_Add.f k bt416.2 bt413.1 bt416.1).bind fun bt418 => (if x13.length < 17592186044416 then ((soft_Calc_Mul.f k bt418.2 x3 (rd x2 x23)).bind fun bt424 => ((soft_Calc_Mul.f k bt424.2 x4 (rd x1 x23)).bind fun bt427 => ((soft_Calc_Sub.f k bt427.2 bt424.1 bt427.1).bind fun bt429 => (if x14.length < 17592186044416 then (vec_Rot.l0 k x1 x2 x3 x4 (x13 ++ [bt418.1]) (x14 ++ [bt429.1]) x22 (wrap64 (x23 + 1)) bt429.2) else (none))))) else (none)))) else (none))) else (none)) else (none)) else (some (x13, x14, 0, x1000))
def vec_Rot.f (k : Nat) (s0_0 : Int) (l1 : List Int) (l2 : List Int) (a3 : Int) (a4 : Int) : Option (List Int × List Int × Int × Int) := if (l1.length : Int) = (l2.length : Int) then (vec_Rot.l0 k l1 l2 a3 a4 ([] : List Int) ([] : List Int) (l1.length : Int) 0 s0_0) else (some (([] : List Int), ([] : List Int), 4, s0_0))
theorem vec_Rot.mono_l : ∀ k, (∀ y0 y1 y2 y3 y4 y5 y6 y7 y8, LeO (vec_Rot.l0 k y0 y1 y2 y3 y4 y5 y6 y7 y8) (vec_Rot.l0 (k + 1) y0 y1 y2 y3 y4 y5 y6 y7 y8))
 | 0 => fun _ _ _ _ _ _ _ _ _ r h => by simp [vec_Rot.l0] at h
 | k + 1 => by
  have ih0 := vec_Rot.mono_l k
  ·
   intro y0 y1 y2 y3 y4 y5 y6 y7 y8
   unfold vec_Rot.l0
   repeat' with_reducible first | apply ih0 | apply soft_Calc_Add.mono | apply soft_Calc_Mul.mono | apply soft_Calc_Sub.mono | exact LeO.refl _ | exact LeO.none _ | refine LeO.ite ?_ ?_ | refine LeO.bind ?_ (fun _ => ?_)
theorem vec_Rot.mono : ∀ a0 a1 a2 a3 a4 k, LeO (vec_Rot.f k a0 a1 a2 a3 a4) (vec_Rot.f (k + 1) a0 a1 a2 a3 a4) := by
 intro a0 a1 a2 a3 a4 k
 have ih0 := vec_Rot.mono_l k
 unfold vec_Rot.f
 repeat' with_reducible first | apply ih0 | apply soft_Calc_Add.mono | apply soft_Calc_Mul.mono | apply soft_Calc_Sub.mono | exact LeO.refl _ | exact LeO.none _ | refine LeO.ite ?_ ?_ | refine LeO.bind ?_ (fun _ => ?_)
def vec_Rot.T7 : Bool × List (List Nat × List Nat) := (true, [([], []), ([], []), ([], []), ([], []), ([], []), ([], []), ([4, 5], [4, 5]), ([6], [6]), ([2, 3, 7], [2, 3, 7]), ([], []), ([], []), ([], []), ([], []), ([11, 12], [11, 12]), ([13], [13]), ([9, 10, 14, 8], [9, 10, 14]), ([1, 8, 15, 15], [1, 8, 15]), ([16], [16]), ([0, 17, 16], [0, 17]), ([18, 18, 0, 1, 2, 3, 4, 5, 6, 7, 8, 9, 10, 11, 12, 13, 14, 15, 16, 17, 18], [0, 18])])
def vec_Rot.B7 : List Nat := [0, 0, 0, 0, 0, 0, 48, 112, 252, 0, 0, 0, 0, 6144, 14336, 32764, 65534, 131070, 262143, 524287]
theorem vec_Rot.tab7 : rtab .any (opsOf Try.f17 7) = vec_Rot.T7 := by kernel_rfl
theorem vec_Rot.bits7 : waitsOk vec_Rot.T7.2 vec_Rot.B7 = true := by kernel_rfl
def vec_Rot.T8 : Bool × List (List Nat × List Nat) := (true, [([], []), ([], []), ([], []), ([], []), ([], []), ([], []), ([4, 5], [4, 5]), ([6], [6]), ([2, 3, 7], [2, 3, 7]), ([], []), ([], []), ([], []), ([], []), ([11, 12], [11, 12]), ([13], [13]), ([9, 10, 14, 8], [9, 10, 14]), ([1, 8, 15, 15], [1, 8, 15]), ([16], [16]), ([0, 17, 16], [0, 17]), ([18, 18, 0, 1, 2, 3, 4, 5, 6, 7, 8, 9, 10, 11, 12, 13, 14, 15, 16, 17, 18], [0, 18])])
def vec_Rot.B8 : List Nat := [0, 0, 0, 0, 0, 0, 48, 112, 252, 0, 0, 0, 0, 6144, 14336, 32764, 65534, 131070, 262143, 524287]
theorem vec_Rot.tab8 : rtab .any (opsOf Try.f17 8) = vec_Rot.T8 := by kernel_rfl
theorem vec_Rot.bits8 : waitsOk vec_Rot.T8.2 vec_Rot.B8 = true := by kernel_rfl
set_option maxHeartbeats 8000000 in
set_option maxRecDepth 100000 in
theorem vec_Rot.calls (k : Nat) (g : Nat) (s0_0 : Int) (A1 : Option Addr) (c1 : Nat) (l1 : List Int) (A2 : Option Addr) (c2 : Nat) (l2 : List Int) (a3 : Int) (a4 : Int) (r1 : List Int) (r2 : List Int) (r3 : Int) (r4 : Int) (w0 w : World) (hI : IsS27 w0 w g s0_0) (hB : Below w0.heap.size w0 w) (hr1 : Kd.C (Kd.int .u64) w A1 l1.length l1) (hc1 : l1.length ≤ c1) (hf1 : ∀ ad, A1 = some ad → 0 < l1.length → ad.block ≠ g) (hr2 : Kd.C (Kd.int .u64) w A2 l2.length l2) (hc2 : l2.length ≤ c2) (hf2 : ∀ ad, A2 = some ad → 0 < l2.length → ad.block ≠ g) (h : vec_Rot.f k s0_0 l1 l2 a3 a4 = some (r1, r2, r3, r4)) :
  Calls Try.prog 17 #[.pointer (some ⟨g, 0, none⟩), .slice A1 l1.length c1, .slice A2 l2.length c2, .int .u64 a3, .int .u64 a4] w fun e w' => ∃ v0_ v1_ : Value, e = .returned (.tuple #[v0_, v1_, .int .i64 r3]) ∧ Kd.R (Kd.int .u64) 28 w' w.heap.size (fun k_ => some k_ ≠ (v1_ : Value).ownBlock) v0_ r1 ∧ Kd.R (Kd.int .u64) 28 w' w.heap.size (fun k_ => some k_ ≠ (v0_ : Value).ownBlock) v1_ r2 ∧ IsS27 w0 w' g r4 ∧ Below w0.heap.size w0 w' ∧ KeepBut w w' g none := by
 have HR1 := Aside0.mk hr1
 have HC1 := Aside0.mk hc1
 clear hr1 hc1
 have HR2 := Aside0.mk hr2
 have HC2 := Aside0.mk hc2
 clear hr2 hc2
 have HI0 := Aside0.mk hI
 have HK := Aside0.mk (KeepBut.refl w g none)
 have HL := Aside0.mk hB.size
 clear hI
 have HW0 := Aside0.mk hB.size
 have HB := Aside0.mk hB
 clear hB
 have H : (if (l1.length : Int) = (l2.length : Int) then (vec_Rot.l0 k l1 l2 a3 a4 ([] : List Int) ([] : List Int) (l1.length : Int) 0 s0_0) else (some (([] : List Int), ([] : List Int), 4, s0_0))) = some (r1, r2, r3, r4) := h
 clear h
 by_cases c6 : (l1.length : Int) = (l2.length : Int)
 rotate_left
 ·
  rw [if_neg c6] at H
  have c6b0 : ((l1.length : Int) == (l2.length : Int)) = false := beq_eq_false_iff_ne.mpr c6
  have c6b1 : ((l1.length : Int) != (l2.length : Int)) = true := bne_iff_ne.mpr c6
  have c6b2 : (l1.length == l2.length) = false := by first | simpa using c6 | (simp at c6 ⊢; omega)
  simp only [Option.some.injEq, Prod.mk.injEq] at H
  obtain ⟨rfl, rfl, rfl, rfl⟩ := H
  go_enter Try.func17, Try.ntmps17
  go_wp2
  go_ret3
  exact ⟨_, _, er, by first | exact Kd.R_nil _ _ _ _ _ | exact Kd.N_nil _ _ _ _ _ | exact Kd.V_nil _ _ _ _ _ | exact Kd.Q_nil _ _ _ _ _ | exact Kd.S_nil _ _ _ _ _, by first | exact Kd.R_nil _ _ _ _ _ | exact Kd.N_nil _ _ _ _ _ | exact Kd.V_nil _ _ _ _ _ | exact Kd.Q_nil _ _ _ _ _ | exact Kd.S_nil _ _ _ _ _, by repeat (first | (with_reducible first | exact HI0.out | apply IsS27.alloc | apply IsS27.drewN | apply IsS27.drew | apply IsS27.set_0) | exact HI0.out), by repeat (first | (with_reducible first | exact HB.out | apply below_alloc | apply pw_below_drewN | apply below_drew1 | refine below_set ?_ (IsS27.ge HI0.out)) | exact HB.out), by repeat (first | (with_reducible first | exact HK.out | apply KeepBut.set_ | apply keep_drewN | apply keep_drew | apply keep_alloc) | exact HK.out)⟩

 rw [if_pos c6] at H
 have c6b0 : ((l1.length : Int) == (l2.length : Int)) = true := beq_iff_eq.mpr c6
 have c6b1 : ((l1.length : Int) != (l2.length : Int)) = false := bne_eq_false_iff_eq.mpr c6
 have c6b2 : (l1.length == l2.length) = true := by first | simpa using c6 | (simp at c6 ⊢; omega)
 clear c6
 have H' := Aside0.mk H
 clear H
 go_enter Try.func17, Try.ntmps17
 go_wp2
 go_loopg [13, 14, 23] k (fun kq v13 v14 v23 w' => ∃ (x13_1 : List Int) (x14_1 : List Int) (x23_1 : Int) (x1000_1 : Int), v23 = .int .i64 x23_1 ∧ Aside0 (vec_Rot.l0 kq l1 l2 a3 a4 x13_1 x14_1 (l1.length : Int) x23_1 x1000_1 = some (r1, r2, r3, r4)) ∧ Aside0 (kq ≤ k) ∧ Aside0 (Kd.R (Kd.int .u64) 28 w' w.heap.size (fun k_ => some k_ ≠ (v14 : Value).ownBlock) v13 x13_1) ∧ Aside0 (Kd.R (Kd.int .u64) 28 w' w.heap.size (fun k_ => some k_ ≠ (v13 : Value).ownBlock) v14 x14_1) ∧ Aside0 (IsS27 w0 w' g x1000_1) ∧ Aside0 (KeepBut w w' g none) ∧ Aside0 (Below w0.heap.size w0 w'))
 case atStart => exact ⟨(([] : List Int)), (([] : List Int)), (0), (s0_0), (by first | rfl | (simp; done) | (simp [*]; done)), H', ⟨Nat.le_refl _⟩, ⟨by first | exact Kd.R_nil _ _ _ _ _ | exact Kd.N_nil _ _ _ _ _ | exact Kd.V_nil _ _ _ _ _ | exact Kd.Q_nil _ _ _ _ _ | exact Kd.S_nil _ _ _ _ _⟩, ⟨by first | exact Kd.R_nil _ _ _ _ _ | exact Kd.N_nil _ _ _ _ _ | exact Kd.V_nil _ _ _ _ _ | exact Kd.Q_nil _ _ _ _ _ | exact Kd.S_nil _ _ _ _ _⟩, ⟨by repeat (first | (with_reducible first | exact HI0.out | apply IsS27.alloc | apply IsS27.drewN | apply IsS27.drew | apply IsS27.set_0) | exact HI0.out)⟩, ⟨by repeat (first | (with_reducible first | exact HK.out | apply KeepBut.set_ | apply keep_drewN | apply keep_drew | apply keep_alloc) | exact HK.out)⟩, ⟨by repeat (first | (with_reducible first | exact HB.out | apply below_alloc | apply pw_below_drewN | apply below_drew1 | refine below_set ?_ (IsS27.ge HI0.out)) | exact HB.out)⟩⟩
 case round =>
  clear H'
  try clear c1
  try clear c2
  try clear p2
  try clear c6
  try clear c6b0
  try clear c6b1
  try clear c6b2
  obtain ⟨x13_1, x14_1, x23_1, x1000_1, rfl, HA, HK1, HO_13, HO_14, HI0, HK, HB⟩ := hrel
  cases gk with
  | zero => exact absurd HA.out (by simp [vec_Rot.l0])
  | succ k1 =>
   have H := HA.out
   clear HA
   simp only [vec_Rot.l0] at H
   by_cases c7 : x23_1 < (l1.length : Int)
   rotate_left
   ·
    rw [if_neg c7] at H
    have c7b0 : decide (x23_1 < (l1.length : Int)) = false := decide_eq_false c7
    clear c7
    simp only [Option.some.injEq, Prod.mk.injEq] at H
    obtain ⟨rfl, rfl, rfl, rfl⟩ := H
    go_wp2
    go_ret3
    exact ⟨_, _, er, kr HO_13, kr HO_14, by repeat (first | (with_reducible first | exact HI0.out | apply IsS27.alloc | apply IsS27.drewN | apply IsS27.drew | apply IsS27.set_0) | exact HI0.out), by repeat (first | (with_reducible first | exact HB.out | apply below_alloc | apply pw_below_drewN | apply below_drew1 | refine below_set ?_ (IsS27.ge HI0.out)) | exact HB.out), by repeat (first | (with_reducible first | exact HK.out | apply KeepBut.set_ | apply keep_drewN | apply keep_drew | apply keep_alloc) | exact HK.out)⟩
   rw [if_pos c7] at H
   have c7b0 : decide (x23_1 < (l1.length : Int)) = true := decide_eq_true c7
   clear c7
   by_cases c8 : 0 ≤ x23_1
   rotate_left
   ·
    rw [if_neg c8] at H
    exact absurd H (by simp)
   rw [if_pos c8] at H
   have c8b0 : decide (0 ≤ x23_1) = true := decide_eq_true c8
   clear c8
   by_cases c9 : x23_1 < (l1.length : Int)
   rotate_left
   ·
    rw [if_neg c9] at H
    exact absurd H (by simp)
   rw [if_pos c9] at H
   have c9b0 : decide (x23_1 < (l1.length : Int)) = true := decide_eq_true c9
   clear c9
   obtain ⟨⟨t413, t414⟩, A100, H⟩ := Option.bind_eq_some_iff.mp H
   (try dsimp -simprocs only at H)
   have A10 := Aside0.mk A100
   clear A100
   by_cases c11 : x23_1 < (l2.length : Int)
   rotate_left
   ·
    rw [if_neg c11] at H
    exact absurd H (by simp)
   rw [if_pos c11] at H
   have c11b0 : decide (x23_1 < (l2.length : Int)) = true := decide_eq_true c11
   clear c11
   obtain ⟨⟨t416, t417⟩, A120, H⟩ := Option.bind_eq_some_iff.mp H
   (try dsimp -simprocs only at H)
   have A12 := Aside0.mk A120
   clear A120
   obtain ⟨⟨t418, t419⟩, A130, H⟩ := Option.bind_eq_some_iff.mp H
   (try dsimp -simprocs only at H)
   have A13 := Aside0.mk A130
   clear A130
   by_cases c14 : x13_1.length < 17592186044416
   rotate_left
   ·
    rw [if_neg c14] at H
    exact absurd H (by simp)
   rw [if_pos c14] at H
   have LMc14 := Aside0.mk c14
   clear c14
   obtain ⟨y420, hy420⟩ : ∃ y_ : List Int, y_ = (x13_1 ++ [t418]) := ⟨_, rfl⟩
   replace H : ((soft_Calc_Mul.f k1 t419 a3 (rd l2 x23_1)).bind fun bt424 => ((soft_Calc_Mul.f k1 bt424.2 a4 (rd l1 x23_1)).bind fun bt427 => ((soft_Calc_Sub.f k1 bt427.2 bt424.1 bt427.1).bind fun bt429 => (if x14_1.length < 17592186044416 then (vec_Rot.l0 k1 l1 l2 a3 a4 y420 (x14_1 ++ [bt429.1]) (l1.length : Int) (wrap64 (x23_1 + 1)) bt429.2) else (none))))) = some (r1, r2, r3, r4) := by first | (rw [hy420]; with_reducible exact H) | (have H2_ := (Option.bind_some _ _).symm.trans H; rw [hy420]; with_reducible exact H2_) | (have H2_ := (Option.bind_some _ _).symm.trans H; with_reducible exact H2_) | with_reducible exact H | (rw [hy420]; exact H) | exact H
   have Ny420 := Aside0.mk hy420
   clear hy420
   obtain ⟨⟨t424, t425⟩, A150, H⟩ := Option.bind_eq_some_iff.mp H
   (try dsimp -simprocs only at H)
   have A15 := Aside0.mk A150
   clear A150
   obtain ⟨⟨t427, t428⟩, A160, H⟩ := Option.bind_eq_some_iff.mp H
   (try dsimp -simprocs only at H)
   have A16 := Aside0.mk A160
   clear A160
   obtain ⟨⟨t429, t430⟩, A170, H⟩ := Option.bind_eq_some_iff.mp H
   (try dsimp -simprocs only at H)
   have A17 := Aside0.mk A170
   clear A170
   by_cases c18 : x14_1.length < 17592186044416
   rotate_left
   ·
    rw [if_neg c18] at H
    exact absurd H (by simp)
   rw [if_pos c18] at H
   have LMc18 := Aside0.mk c18
   clear c18
   obtain ⟨y431, hy431⟩ : ∃ y_ : List Int, y_ = (x14_1 ++ [t429]) := ⟨_, rfl⟩
   replace H : (vec_Rot.l0 k1 l1 l2 a3 a4 y420 y431 (l1.length : Int) (wrap64 (x23_1 + 1)) t430) = some (r1, r2, r3, r4) := by first | (rw [hy431]; with_reducible exact H) | (have H2_ := (Option.bind_some _ _).symm.trans H; rw [hy431]; with_reducible exact H2_) | (have H2_ := (Option.bind_some _ _).symm.trans H; with_reducible exact H2_) | with_reducible exact H | (rw [hy431]; exact H) | exact H
   have Ny431 := Aside0.mk hy431
   clear hy431
   have H' := Aside0.mk H
   clear H
   try go_wp2
   refine ax5 (Kd.R_drew HO_13.out) (Kd.R_drew HO_14.out) (IsS27.drew HI0.out) (keep_drew HK.out) (below_drew1 HB.out) ?_
   clear HO_13 HO_14 HI0 HK HB
   intro HO_13 HO_14 HI0 HK HB
   have p412 : 0 ≤ (x23_1 : Int) := of_decide_eq_true (by first | (with_reducible assumption) | assumption)
   have q412 : x23_1 < (l1.length : Int) := of_decide_eq_true (by first | (with_reducible assumption) | assumption)
   obtain ⟨ad412, e412, hx412_0⟩ := Kd.at_int HR1.out x23_1 p412 q412
   have hw412_0 := hx412_0
   cases e412
   have hne412_0 := (show ((ad412.add (x23_1).toNat) : Addr).block ≠ g from by first | (rw [add_block]; exact hf1 ad412 rfl (by omega)) | (show (Addr.add _ _).block ≠ _; rw [add_block]; exact hf1 ad412 rfl (by omega)) | exact hf1 ad412 rfl (by omega))
   replace hx412_0 := keep_cell HK.out hx412_0 (by first | (rw [add_block]; exact hf1 _ rfl (by omega)) | exact hf1 _ rfl (by omega) | exact hf1 ad412 rfl (by omega))
   replace p412 := eq_true p412
   replace q412 := eq_true q412
   have p415 : 0 ≤ (x23_1 : Int) := of_decide_eq_true (by first | (with_reducible assumption) | assumption)
   have q415 : x23_1 < (l2.length : Int) := of_decide_eq_true (by first | (with_reducible assumption) | assumption)
   obtain ⟨ad415, e415, hx415_0⟩ := Kd.at_int HR2.out x23_1 p415 q415
   have hw415_0 := hx415_0
   cases e415
   have hne415_0 := (show ((ad415.add (x23_1).toNat) : Addr).block ≠ g from by first | (rw [add_block]; exact hf2 ad415 rfl (by omega)) | (show (Addr.add _ _).block ≠ _; rw [add_block]; exact hf2 ad415 rfl (by omega)) | exact hf2 ad415 rfl (by omega))
   replace hx415_0 := keep_cell HK.out hx415_0 (by first | (rw [add_block]; exact hf2 _ rfl (by omega)) | exact hf2 _ rfl (by omega) | exact hf2 ad415 rfl (by omega))
   replace p415 := eq_true p415
   replace q415 := eq_true q415
   refine start_ (n := 20) (S := fun w' => w'.cell? (ad412.add (x23_1).toNat) = some (.int .u64 (rd l1 x23_1)) ∧ w'.cell? (ad415.add (x23_1).toNat) = some (.int .u64 (rd l2 x23_1))) (ds := []) #[false, false, false, false, false, false, false, false, false, false, false, false, false, false, false, false, false, false, false, false] (by kernel_rfl) rfl rfl ⟨(keep_cell HK.out hw412_0 hne412_0), (keep_cell HK.out hw415_0 hne415_0)⟩ (fun hHeld => ?_); refine with_tabW vec_Rot.tab7 vec_Rot.bits7 (fun HT_ HW_ => ?_)
   generalize wr.drew = w19 at HO_13 HO_14 HI0 HK HB hx412_0 hx415_0 hHeld ⊢
   refine pure_ (i := 0) (N := some 26) (v := ?_) (a' := ?_) #[true, false, false, false, false, false, false, false, false, false, false, false, false, false, false, false, false, false, false, false] rfl rfl (any_of HT_.out (by kernel_rfl)) (fun _ _ _ h => h) (Or.inl ⟨by rfl, ?_⟩) ?_ ?_
   rotate_left
   ·
    intro w'
    go_simp
    with_reducible rfl
   rotate_left
   ·
    simp only [Act.put, sa0, sa1, sa2, i64_w, i32_w]
    rfl
   refine pure_ (i := 1) (N := some 27) (v := ?_) (a' := ?_) #[true, true, false, false, false, false, false, false, false, false, false, false, false, false, false, false, false, false, false, false] rfl rfl (any_of HT_.out (by kernel_rfl)) (fun _ _ _ h => h) (Or.inl ⟨by rfl, ?_⟩) ?_ ?_
   rotate_left
   ·
    intro w'
    go_simp
    with_reducible rfl
   rotate_left
   ·
    simp only [Act.put, sa0, sa1, sa2, i64_w, i32_w]
    rfl
   refine pure_ (i := 2) (N := some 28) (v := ?_) (a' := ?_) #[true, true, true, false, false, false, false, false, false, false, false, false, false, false, false, false, false, false, false, false] rfl rfl (any_of HT_.out (by kernel_rfl)) (fun _ _ _ h => h) (Or.inl ⟨by rfl, ?_⟩) ?_ ?_
   rotate_left
   ·
    intro w'
    go_simp
    with_reducible rfl
   rotate_left
   ·
    simp only [Act.put, sa0, sa1, sa2, i64_w, i32_w]
    rfl
   refine pure_ (i := 3) (N := some 29) (v := ?_) (a' := ?_) #[true, true, true, true, false, false, false, false, false, false, false, false, false, false, false, false, false, false, false, false] rfl rfl (any_of HT_.out (by kernel_rfl)) (fun _ _ _ h => h) (Or.inl ⟨by rfl, ?_⟩) ?_ ?_
   rotate_left
   ·
    intro w'
    go_simp
    with_reducible rfl
   rotate_left
   ·
    simp only [Act.put, sa0, sa1, sa2, i64_w, i32_w]
    rfl
   refine pure_ (i := 4) (N := some 30) (v := ?_) (a' := ?_) #[true, true, true, true, true, false, false, false, false, false, false, false, false, false, false, false, false, false, false, false] rfl rfl (any_of HT_.out (by kernel_rfl)) (fun _ _ _ h => h) (Or.inl ⟨by rfl, ?_⟩) ?_ ?_
   rotate_left
   ·
    intro w'
    go_simp
    with_reducible rfl
   rotate_left
   ·
    simp only [Act.put, sa0, sa1, sa2, i64_w, i32_w]
    rfl
   refine pure_ (i := 5) (N := some 31) (v := ?_) (a' := ?_) #[true, true, true, true, true, true, false, false, false, false, false, false, false, false, false, false, false, false, false, false] rfl rfl (any_of HT_.out (by kernel_rfl)) (fun _ _ _ h => h) (Or.inl ⟨by rfl, ?_⟩) ?_ ?_
   rotate_left
   ·
    intro w'
    go_simp
    with_reducible rfl
   rotate_left
   ·
    simp only [Act.put, sa0, sa1, sa2, i64_w, i32_w]
    rfl
   refine pure_ (i := 6) (N := some 32) (v := ?_) (a' := ?_) #[true, true, true, true, true, true, true, false, false, false, false, false, false, false, false, false, false, false, false, false] rfl rfl (any_of HT_.out (by kernel_rfl)) (fun _ _ _ h => h) (Or.inl ⟨by rfl, ?_⟩) ?_ ?_
   rotate_left
   ·
    intro w'
    go_simp
    with_reducible rfl
   rotate_left
   ·
    simp only [Act.put, sa0, sa1, sa2, i64_w, i32_w]
    rfl
   refine pure_ (i := 9) (N := some 35) (v := ?_) (a' := ?_) #[true, true, true, true, true, true, true, false, false, true, false, false, false, false, false, false, false, false, false, false] rfl rfl (any_of HT_.out (by kernel_rfl)) (fun _ _ _ h => h) (Or.inl ⟨by rfl, ?_⟩) ?_ ?_
   rotate_left
   ·
    intro w'
    go_simp
    with_reducible rfl
   rotate_left
   ·
    simp only [Act.put, sa0, sa1, sa2, i64_w, i32_w]
    rfl
   refine pure_ (i := 10) (N := some 36) (v := ?_) (a' := ?_) #[true, true, true, true, true, true, true, false, false, true, true, false, false, false, false, false, false, false, false, false] rfl rfl (any_of HT_.out (by kernel_rfl)) (fun _ _ _ h => h) (Or.inl ⟨by rfl, ?_⟩) ?_ ?_
   rotate_left
   ·
    intro w'
    go_simp
    with_reducible rfl
   rotate_left
   ·
    simp only [Act.put, sa0, sa1, sa2, i64_w, i32_w]
    rfl
   refine pure_ (i := 11) (N := some 37) (v := ?_) (a' := ?_) #[true, true, true, true, true, true, true, false, false, true, true, true, false, false, false, false, false, false, false, false] rfl rfl (any_of HT_.out (by kernel_rfl)) (fun _ _ _ h => h) (Or.inl ⟨by rfl, ?_⟩) ?_ ?_
   rotate_left
   ·
    intro w'
    go_simp
    with_reducible rfl
   rotate_left
   ·
    simp only [Act.put, sa0, sa1, sa2, i64_w, i32_w]
    rfl
   refine pure_ (i := 12) (N := some 38) (v := ?_) (a' := ?_) #[true, true, true, true, true, true, true, false, false, true, true, true, true, false, false, false, false, false, false, false] rfl rfl (any_of HT_.out (by kernel_rfl)) (fun _ _ _ h => h) (Or.inl ⟨by rfl, ?_⟩) ?_ ?_
   rotate_left
   ·
    intro w'
    go_simp
    with_reducible rfl
   rotate_left
   ·
    simp only [Act.put, sa0, sa1, sa2, i64_w, i32_w]
    rfl
   refine pure_ (i := 13) (N := some 39) (v := ?_) (a' := ?_) #[true, true, true, true, true, true, true, false, false, true, true, true, true, true, false, false, false, false, false, false] rfl rfl (any_of HT_.out (by kernel_rfl)) (fun _ _ _ h => h) (Or.inl ⟨by rfl, ?_⟩) ?_ ?_
   rotate_left
   ·
    intro w'
    go_simp
    with_reducible rfl
   rotate_left
   ·
    simp only [Act.put, sa0, sa1, sa2, i64_w, i32_w]
    rfl
   refine take_ (i := 7) (N := some 33) (v := ?_) (a' := ?_) #[true, true, true, true, true, true, true, true, false, true, true, true, true, true, false, false, false, false, false, false] rfl rfl (take_ofW HT_.out HW_.out (by kernel_rfl)) (fun _ _ _ h => h) (Or.inl ⟨by rfl, ?_⟩) hHeld ?_ ?_
   rotate_left
   ·
    rintro w' ⟨s0, s1⟩
    go_simp
    with_reducible rfl
   rotate_left
   ·
    simp only [Act.put, sa0, sa1, sa2, i64_w, i32_w]
    rfl
   refine take_ (i := 14) (N := some 40) (v := ?_) (a' := ?_) #[true, true, true, true, true, true, true, true, false, true, true, true, true, true, true, false, false, false, false, false] rfl rfl (take_ofW HT_.out HW_.out (by kernel_rfl)) (fun _ _ _ h => h) (Or.inl ⟨by rfl, ?_⟩) hHeld ?_ ?_
   rotate_left
   ·
    rintro w' ⟨s0, s1⟩
    go_simp
    with_reducible rfl
   rotate_left
   ·
    simp only [Act.put, sa0, sa1, sa2, i64_w, i32_w]
    rfl
   refine one_ (i := 8) (N := some 34) #[true, true, true, true, true, true, true, true, true, true, true, true, true, true, true, false, false, false, false, false] rfl rfl (one_of HT_.out (by kernel_rfl)) (by decide) (fun K hK => ?_)
   refine goes_ Try.func12 (by kernel_rfl) rfl #[.pointer (some ⟨g, 0, none⟩), .int .u64 a3, .int .u64 (rd l1 x23_1)] (by rfl) rfl rfl ga ?_
   with_reducible refine (soft_Calc_Mul.calls k1 g x1000_1 a3 (rd l1 x23_1) t413 t414 w0 _ ?side1 ?side2 A10.out).mono ?_
   (case side1 => repeat (first | (with_reducible first | exact HI0.out | apply IsS27.alloc | apply IsS27.drewN | apply IsS27.drew | apply IsS27.set_0) | exact HI0.out))
   (case side2 => repeat (first | (with_reducible first | exact HB.out | apply below_alloc | apply pw_below_drewN | apply below_drew1 | refine below_set ?_ (IsS27.ge HI0.out)) | exact HB.out))
   rintro e w20 ⟨rfl, hi, hb, hk⟩
   refine ⟨_, rfl, ?_⟩
   refine ax5 (Kd.R_mono (Kd.R_keep (IsS27.apart (show IsS27 w0 _ g x1000_1 from by repeat (first | (with_reducible first | exact HI0.out | apply IsS27.alloc | apply IsS27.drewN | apply IsS27.drew | apply IsS27.set_0) | exact HI0.out)) (kr HO_13) (by decide)) hk (fun _ h => h.2)) (fun _ h => h.1)) (Kd.R_mono (Kd.R_keep (IsS27.apart (show IsS27 w0 _ g x1000_1 from by repeat (first | (with_reducible first | exact HI0.out | apply IsS27.alloc | apply IsS27.drewN | apply IsS27.drew | apply IsS27.set_0) | exact HI0.out)) (kr HO_14) (by decide)) hk (fun _ h => h.2)) (fun _ h => h.1)) (KeepBut.trans (by repeat (first | (with_reducible first | exact HK.out | apply KeepBut.set_ | apply keep_drewN | apply keep_drew | apply keep_alloc) | exact HK.out)) hk (.inl rfl)) hb hi ?_
   clear HO_13 HO_14 HK HB HI0
   intro HO_13 HO_14 HK HB HI0
   (try clear hb)
   (try clear hb2)
   (try clear hk)
   (try clear hi)
   refine hK.out _ _ ⟨(keep_cell HK.out hw412_0 hne412_0), (keep_cell HK.out hw415_0 hne415_0)⟩ (fun hHeld => ?_)
   clear hK K
   refine norm_ (a' := ?_) ?_ ?_
   rotate_left
   ·
    show Act.put _ (some 34) _ = _
    simp only [Act.put, sa0, sa1, sa2, i64_w, i32_w]
    rfl
   refine one_ (i := 15) (N := some 41) #[true, true, true, true, true, true, true, true, true, true, true, true, true, true, true, true, false, false, false, false] rfl rfl (one_of HT_.out (by kernel_rfl)) (by decide) (fun K hK => ?_)
   refine goes_ Try.func12 (by kernel_rfl) rfl #[.pointer (some ⟨g, 0, none⟩), .int .u64 a4, .int .u64 (rd l2 x23_1)] (by rfl) rfl rfl ga ?_
   with_reducible refine (soft_Calc_Mul.calls k1 g t414 a4 (rd l2 x23_1) t416 t417 w0 _ ?side1 ?side2 A12.out).mono ?_
   (case side1 => repeat (first | (with_reducible first | exact HI0.out | apply IsS27.alloc | apply IsS27.drewN | apply IsS27.drew | apply IsS27.set_0) | exact HI0.out))
   (case side2 => repeat (first | (with_reducible first | exact HB.out | apply below_alloc | apply pw_below_drewN | apply below_drew1 | refine below_set ?_ (IsS27.ge HI0.out)) | exact HB.out))
   rintro e w21 ⟨rfl, hi, hb, hk⟩
   refine ⟨_, rfl, ?_⟩
   refine ax5 (Kd.R_mono (Kd.R_keep (IsS27.apart (show IsS27 w0 _ g t414 from by repeat (first | (with_reducible first | exact HI0.out | apply IsS27.alloc | apply IsS27.drewN | apply IsS27.drew | apply IsS27.set_0) | exact HI0.out)) (kr HO_13) (by decide)) hk (fun _ h => h.2)) (fun _ h => h.1)) (Kd.R_mono (Kd.R_keep (IsS27.apart (show IsS27 w0 _ g t414 from by repeat (first | (with_reducible first | exact HI0.out | apply IsS27.alloc | apply IsS27.drewN | apply IsS27.drew | apply IsS27.set_0) | exact HI0.out)) (kr HO_14) (by decide)) hk (fun _ h => h.2)) (fun _ h => h.1)) (KeepBut.trans (by repeat (first | (with_reducible first | exact HK.out | apply KeepBut.set_ | apply keep_drewN | apply keep_drew | apply keep_alloc) | exact HK.out)) hk (.inl rfl)) hb hi ?_
   clear HO_13 HO_14 HK HB HI0
   intro HO_13 HO_14 HK HB HI0
   (try clear hb)
   (try clear hb2)
   (try clear hk)
   (try clear hi)
   refine hK.out _ _ ⟨(keep_cell HK.out hw412_0 hne412_0), (keep_cell HK.out hw415_0 hne415_0)⟩ (fun hHeld => ?_)
   clear hK K
   refine norm_ (a' := ?_) ?_ ?_
   rotate_left
   ·
    show Act.put _ (some 41) _ = _
    simp only [Act.put, sa0, sa1, sa2, i64_w, i32_w]
    rfl
   refine one_ (i := 16) (N := some 42) #[true, true, true, true, true, true, true, true, true, true, true, true, true, true, true, true, true, false, false, false] rfl rfl (one_of HT_.out (by kernel_rfl)) (by decide) (fun K hK => ?_)
   refine goes_ Try.func11 (by kernel_rfl) rfl #[.pointer (some ⟨g, 0, none⟩), .int .u64 t413, .int .u64 t416] (by rfl) rfl rfl ga ?_
   with_reducible refine (soft_Calc_Add.calls k1 g t417 t413 t416 t418 t419 w0 _ ?side1 ?side2 A13.out).mono ?_
   (case side1 => repeat (first | (with_reducible first | exact HI0.out | apply IsS27.alloc | apply IsS27.drewN | apply IsS27.drew | apply IsS27.set_0) | exact HI0.out))
   (case side2 => repeat (first | (with_reducible first | exact HB.out | apply below_alloc | apply pw_below_drewN | apply below_drew1 | refine below_set ?_ (IsS27.ge HI0.out)) | exact HB.out))
   rintro e w22 ⟨rfl, hi, hb, hk⟩
   refine ⟨_, rfl, ?_⟩
   refine ax5 (Kd.R_mono (Kd.R_keep (IsS27.apart (show IsS27 w0 _ g t417 from by repeat (first | (with_reducible first | exact HI0.out | apply IsS27.alloc | apply IsS27.drewN | apply IsS27.drew | apply IsS27.set_0) | exact HI0.out)) (kr HO_13) (by decide)) hk (fun _ h => h.2)) (fun _ h => h.1)) (Kd.R_mono (Kd.R_keep (IsS27.apart (show IsS27 w0 _ g t417 from by repeat (first | (with_reducible first | exact HI0.out | apply IsS27.alloc | apply IsS27.drewN | apply IsS27.drew | apply IsS27.set_0) | exact HI0.out)) (kr HO_14) (by decide)) hk (fun _ h => h.2)) (fun _ h => h.1)) (KeepBut.trans (by repeat (first | (with_reducible first | exact HK.out | apply KeepBut.set_ | apply keep_drewN | apply keep_drew | apply keep_alloc) | exact HK.out)) hk (.inl rfl)) hb hi ?_
   clear HO_13 HO_14 HK HB HI0
   intro HO_13 HO_14 HK HB HI0
   (try clear hb)
   (try clear hb2)
   (try clear hk)
   (try clear hi)
   refine hK.out _ _ ⟨(keep_cell HK.out hw412_0 hne412_0), (keep_cell HK.out hw415_0 hne415_0)⟩ (fun hHeld => ?_)
   clear hK K
   refine norm_ (a' := ?_) ?_ ?_
   rotate_left
   ·
    show Act.put _ (some 42) _ = _
    simp only [Act.put, sa0, sa1, sa2, i64_w, i32_w]
    rfl
   refine one_ (i := 17) (N := some 43) #[true, true, true, true, true, true, true, true, true, true, true, true, true, true, true, true, true, true, false, false] rfl rfl (one_of HT_.out (by kernel_rfl)) (by decide) (fun K hK => ?_)
   refine value_ (w1 := ?_) (v := ?_) (by rfl) rfl ?_ ?_
   rotate_left 2
   ·
    go_simp
    constructor
    ·
     rfl
    ·
     rfl
   refine hK.out _ _ ⟨(World.cell?_alloc_lt _ _ _ (World.block_lt_of_cell? _ _ ((keep_cell HK.out hw412_0 hne412_0)))).trans ((keep_cell HK.out hw412_0 hne412_0)), (World.cell?_alloc_lt _ _ _ (World.block_lt_of_cell? _ _ ((keep_cell HK.out hw415_0 hne415_0)))).trans ((keep_cell HK.out hw415_0 hne415_0))⟩ (fun hHeld => ?_)
   clear hK K
   refine norm_ (a' := ?_) ?_ ?_
   rotate_left
   ·
    show Act.put _ (some 43) _ = _
    simp only [Act.put, sa0, sa1, sa2, i64_w, i32_w]
    rfl
   refine one_ (i := 18) (N := some 44) #[true, true, true, true, true, true, true, true, true, true, true, true, true, true, true, true, true, true, true, false] rfl rfl (one_of HT_.out (by kernel_rfl)) (by decide) (fun K hK => ?_)
   refine Kd.R_append_step (Kd.int .u64) w.heap.size (by rfl) (.tmp 26) (.tmp 43) 22 28 (.int .u64 0) 8 rfl Try.underlying22 info28 rfl (by decide) (by omega) u13 x13_1 t418 [.int .u64 t418] (fun k_ => some k_ ≠ (u14 : Value).ownBlock) (fun _ => False) rfl rfl ?aP (fun _ hk => hk.elim) ?aF ?aO (Below.refl _ _) ?aS ?aL ?_
   (case aP => exact rfl)
   (case aF => exact (fun k_ hk => Kd.fresh' (Kd.R_lt (kr HO_14)) k_ hk))
   (case aO => exact (kr HO_13))
   (case aS => exact (keep_size (w := w) (g := g) (row := none) (by repeat (first | (with_reducible first | exact HK.out | apply KeepBut.set_ | apply keep_drewN | apply keep_drew | apply keep_alloc) | exact HK.out))))
   (case aL => have := LMc14.out; omega)
   intro v421 w23 ho hb hg hat
   rw [← Ny420.out] at ho
   refine ax5 (Kd.R_after (ok := (fun _ => True)) (by (with_reducible repeat (first | apply Kd.R_alloc | apply Kd.R_drewN | apply Kd.R_drew)); exact Kd.R_mono HO_14.out (fun _ hk => ⟨trivial, hk⟩)) hg hat) (IsS27.grown (by repeat (first | (with_reducible first | exact HI0.out | apply IsS27.alloc | apply IsS27.drewN | apply IsS27.drew | apply IsS27.set_0) | exact HI0.out)) hg (IsS27.own_ne HI0.out HO_13.out (by decide))) (below_weaken (by repeat (first | (with_reducible first | exact HB.out | apply below_alloc | apply pw_below_drewN | apply below_drew1 | refine below_set ?_ (IsS27.ge HI0.out)) | exact HB.out)) HL.out hb) (KeepBut.trans (by repeat (first | (with_reducible first | exact HK.out | apply KeepBut.set_ | apply keep_drewN | apply keep_drew | apply keep_alloc) | exact HK.out)) (KeepBut.of_grown hg g) (Kd.R_base2 HO_13.out)) ho ?_
   clear HO_14 HI0 HB HK HO_13
   intro HO_14 HI0 HB HK HO422
   clear ho hb hg hat
   refine hK.out _ _ ⟨(keep_cell HK.out hw412_0 hne412_0), (keep_cell HK.out hw415_0 hne415_0)⟩ (fun hHeld => ?_)
   clear hK K
   refine norm_ (a' := ?_) ?_ ?_
   rotate_left
   ·
    show Act.put _ (some 44) _ = _
    simp only [Act.put, sa0, sa1, sa2, i64_w, i32_w]
    rfl
   refine pure_ (i := 19) (N := some 13) (v := ?_) (a' := ?_) #[true, true, true, true, true, true, true, true, true, true, true, true, true, true, true, true, true, true, true, true] rfl rfl (any_of HT_.out (by kernel_rfl)) (fun _ _ _ h => h) (Or.inl ⟨by rfl, ?_⟩) ?_ ?_
   rotate_left
   ·
    intro w'
    go_simp
    with_reducible rfl
   rotate_left
   ·
    simp only [Act.put, sa0, sa1, sa2, i64_w, i32_w]
    rfl
   refine done_ (done_of HT_.out (by kernel_rfl)) ?_
   try go_wp2
   refine ax5 (Kd.R_drew HO_14.out) (Kd.R_drew HO422.out) (IsS27.drew HI0.out) (keep_drew HK.out) (below_drew1 HB.out) ?_
   clear HO_14 HO422 HI0 HK HB
   intro HO_14 HO422 HI0 HK HB
   have p423 : 0 ≤ (x23_1 : Int) := of_decide_eq_true (by first | (with_reducible assumption) | assumption)
   have q423 : x23_1 < (l2.length : Int) := of_decide_eq_true (by first | (with_reducible assumption) | assumption)
   obtain ⟨ad423, e423, hx423_0⟩ := Kd.at_int HR2.out x23_1 p423 q423
   have hw423_0 := hx423_0
   obtain rfl : ad415 = ad423 := (by injection e423)
   have hne423_0 := (show ((ad415.add (x23_1).toNat) : Addr).block ≠ g from by first | (rw [add_block]; exact hf2 ad415 rfl (by omega)) | (show (Addr.add _ _).block ≠ _; rw [add_block]; exact hf2 ad415 rfl (by omega)) | exact hf2 ad415 rfl (by omega))
   replace hx423_0 := keep_cell HK.out hx423_0 (by first | (rw [add_block]; exact hf2 _ rfl (by omega)) | exact hf2 _ rfl (by omega) | exact hf2 ad415 rfl (by omega))
   replace p423 := eq_true p423
   replace q423 := eq_true q423
   have p426 : 0 ≤ (x23_1 : Int) := of_decide_eq_true (by first | (with_reducible assumption) | assumption)
   have q426 : x23_1 < (l1.length : Int) := of_decide_eq_true (by first | (with_reducible assumption) | assumption)
   obtain ⟨ad426, e426, hx426_0⟩ := Kd.at_int HR1.out x23_1 p426 q426
   have hw426_0 := hx426_0
   obtain rfl : ad412 = ad426 := (by injection e426)
   have hne426_0 := (show ((ad412.add (x23_1).toNat) : Addr).block ≠ g from by first | (rw [add_block]; exact hf1 ad412 rfl (by omega)) | (show (Addr.add _ _).block ≠ _; rw [add_block]; exact hf1 ad412 rfl (by omega)) | exact hf1 ad412 rfl (by omega))
   replace hx426_0 := keep_cell HK.out hx426_0 (by first | (rw [add_block]; exact hf1 _ rfl (by omega)) | exact hf1 _ rfl (by omega) | exact hf1 ad412 rfl (by omega))
   replace p426 := eq_true p426
   replace q426 := eq_true q426
   refine start_ (n := 20) (S := fun w' => w'.cell? (ad415.add (x23_1).toNat) = some (.int .u64 (rd l2 x23_1)) ∧ w'.cell? (ad412.add (x23_1).toNat) = some (.int .u64 (rd l1 x23_1))) (ds := []) #[false, false, false, false, false, false, false, false, false, false, false, false, false, false, false, false, false, false, false, false] (by kernel_rfl) rfl rfl ⟨(keep_cell HK.out hw423_0 hne423_0), (keep_cell HK.out hw426_0 hne426_0)⟩ (fun hHeld => ?_); refine with_tabW vec_Rot.tab8 vec_Rot.bits8 (fun HT_ HW_ => ?_)
   generalize w23.drew = w24 at HO_14 HO422 HI0 HK HB hx423_0 hx426_0 hHeld ⊢
   refine pure_ (i := 0) (N := some 45) (v := ?_) (a' := ?_) #[true, false, false, false, false, false, false, false, false, false, false, false, false, false, false, false, false, false, false, false] rfl rfl (any_of HT_.out (by kernel_rfl)) (fun _ _ _ h => h) (Or.inl ⟨by rfl, ?_⟩) ?_ ?_
   rotate_left
   ·
    intro w'
    go_simp
    with_reducible rfl
   rotate_left
   ·
    simp only [Act.put, sa0, sa1, sa2, i64_w, i32_w]
    rfl
   refine pure_ (i := 1) (N := some 46) (v := ?_) (a' := ?_) #[true, true, false, false, false, false, false, false, false, false, false, false, false, false, false, false, false, false, false, false] rfl rfl (any_of HT_.out (by kernel_rfl)) (fun _ _ _ h => h) (Or.inl ⟨by rfl, ?_⟩) ?_ ?_
   rotate_left
   ·
    intro w'
    go_simp
    with_reducible rfl
   rotate_left
   ·
    simp only [Act.put, sa0, sa1, sa2, i64_w, i32_w]
    rfl
   refine pure_ (i := 2) (N := some 47) (v := ?_) (a' := ?_) #[true, true, true, false, false, false, false, false, false, false, false, false, false, false, false, false, false, false, false, false] rfl rfl (any_of HT_.out (by kernel_rfl)) (fun _ _ _ h => h) (Or.inl ⟨by rfl, ?_⟩) ?_ ?_
   rotate_left
   ·
    intro w'
    go_simp
    with_reducible rfl
   rotate_left
   ·
    simp only [Act.put, sa0, sa1, sa2, i64_w, i32_w]
    rfl
   refine pure_ (i := 3) (N := some 48) (v := ?_) (a' := ?_) #[true, true, true, true, false, false, false, false, false, false, false, false, false, false, false, false, false, false, false, false] rfl rfl (any_of HT_.out (by kernel_rfl)) (fun _ _ _ h => h) (Or.inl ⟨by rfl, ?_⟩) ?_ ?_
   rotate_left
   ·
    intro w'
    go_simp
    with_reducible rfl
   rotate_left
   ·
    simp only [Act.put, sa0, sa1, sa2, i64_w, i32_w]
    rfl
   refine pure_ (i := 4) (N := some 49) (v := ?_) (a' := ?_) #[true, true, true, true, true, false, false, false, false, false, false, false, false, false, false, false, false, false, false, false] rfl rfl (any_of HT_.out (by kernel_rfl)) (fun _ _ _ h => h) (Or.inl ⟨by rfl, ?_⟩) ?_ ?_
   rotate_left
   ·
    intro w'
    go_simp
    with_reducible rfl
   rotate_left
   ·
    simp only [Act.put, sa0, sa1, sa2, i64_w, i32_w]
    rfl
   refine pure_ (i := 5) (N := some 50) (v := ?_) (a' := ?_) #[true, true, true, true, true, true, false, false, false, false, false, false, false, false, false, false, false, false, false, false] rfl rfl (any_of HT_.out (by kernel_rfl)) (fun _ _ _ h => h) (Or.inl ⟨by rfl, ?_⟩) ?_ ?_
   rotate_left
   ·
    intro w'
    go_simp
    with_reducible rfl
   rotate_left
   ·
    simp only [Act.put, sa0, sa1, sa2, i64_w, i32_w]
    rfl
   refine pure_ (i := 6) (N := some 51) (v := ?_) (a' := ?_) #[true, true, true, true, true, true, true, false, false, false, false, false, false, false, false, false, false, false, false, false] rfl rfl (any_of HT_.out (by kernel_rfl)) (fun _ _ _ h => h) (Or.inl ⟨by rfl, ?_⟩) ?_ ?_
   rotate_left
   ·
    intro w'
    go_simp
    with_reducible rfl
   rotate_left
   ·
    simp only [Act.put, sa0, sa1, sa2, i64_w, i32_w]
    rfl
   refine pure_ (i := 9) (N := some 54) (v := ?_) (a' := ?_) #[true, true, true, true, true, true, true, false, false, true, false, false, false, false, false, false, false, false, false, false] rfl rfl (any_of HT_.out (by kernel_rfl)) (fun _ _ _ h => h) (Or.inl ⟨by rfl, ?_⟩) ?_ ?_
   rotate_left
   ·
    intro w'
    go_simp
    with_reducible rfl
   rotate_left
   ·
    simp only [Act.put, sa0, sa1, sa2, i64_w, i32_w]
    rfl
   refine pure_ (i := 10) (N := some 55) (v := ?_) (a' := ?_) #[true, true, true, true, true, true, true, false, false, true, true, false, false, false, false, false, false, false, false, false] rfl rfl (any_of HT_.out (by kernel_rfl)) (fun _ _ _ h => h) (Or.inl ⟨by rfl, ?_⟩) ?_ ?_
   rotate_left
   ·
    intro w'
    go_simp
    with_reducible rfl
   rotate_left
   ·
    simp only [Act.put, sa0, sa1, sa2, i64_w, i32_w]
    rfl
   refine pure_ (i := 11) (N := some 56) (v := ?_) (a' := ?_) #[true, true, true, true, true, true, true, false, false, true, true, true, false, false, false, false, false, false, false, false] rfl rfl (any_of HT_.out (by kernel_rfl)) (fun _ _ _ h => h) (Or.inl ⟨by rfl, ?_⟩) ?_ ?_
   rotate_left
   ·
    intro w'
    go_simp
    with_reducible rfl
   rotate_left
   ·
    simp only [Act.put, sa0, sa1, sa2, i64_w, i32_w]
    rfl
   refine pure_ (i := 12) (N := some 57) (v := ?_) (a' := ?_) #[true, true, true, true, true, true, true, false, false, true, true, true, true, false, false, false, false, false, false, false] rfl rfl (any_of HT_.out (by kernel_rfl)) (fun _ _ _ h => h) (Or.inl ⟨by rfl, ?_⟩) ?_ ?_
   rotate_left
   ·
    intro w'
    go_simp
    with_reducible rfl
   rotate_left
   ·
    simp only [Act.put, sa0, sa1, sa2, i64_w, i32_w]
    rfl
   refine pure_ (i := 13) (N := some 58) (v := ?_) (a' := ?_) #[true, true, true, true, true, true, true, false, false, true, true, true, true, true, false, false, false, false, false, false] rfl rfl (any_of HT_.out (by kernel_rfl)) (fun _ _ _ h => h) (Or.inl ⟨by rfl, ?_⟩) ?_ ?_
   rotate_left
   ·
    intro w'
    go_simp
    with_reducible rfl
   rotate_left
   ·
    simp only [Act.put, sa0, sa1, sa2, i64_w, i32_w]
    rfl
   refine take_ (i := 7) (N := some 52) (v := ?_) (a' := ?_) #[true, true, true, true, true, true, true, true, false, true, true, true, true, true, false, false, false, false, false, false] rfl rfl (take_ofW HT_.out HW_.out (by kernel_rfl)) (fun _ _ _ h => h) (Or.inl ⟨by rfl, ?_⟩) hHeld ?_ ?_
   rotate_left
   ·
    rintro w' ⟨s0, s1⟩
    go_simp
    with_reducible rfl
   rotate_left
   ·
    simp only [Act.put, sa0, sa1, sa2, i64_w, i32_w]
    rfl
   refine take_ (i := 14) (N := some 59) (v := ?_) (a' := ?_) #[true, true, true, true, true, true, true, true, false, true, true, true, true, true, true, false, false, false, false, false] rfl rfl (take_ofW HT_.out HW_.out (by kernel_rfl)) (fun _ _ _ h => h) (Or.inl ⟨by rfl, ?_⟩) hHeld ?_ ?_
   rotate_left
   ·
    rintro w' ⟨s0, s1⟩
    go_simp
    with_reducible rfl
   rotate_left
   ·
    simp only [Act.put, sa0, sa1, sa2, i64_w, i32_w]
    rfl
   refine one_ (i := 8) (N := some 53) #[true, true, true, true, true, true, true, true, true, true, true, true, true, true, true, false, false, false, false, false] rfl rfl (one_of HT_.out (by kernel_rfl)) (by decide) (fun K hK => ?_)
   refine goes_ Try.func12 (by kernel_rfl) rfl #[.pointer (some ⟨g, 0, none⟩), .int .u64 a3, .int .u64 (rd l2 x23_1)] (by rfl) rfl rfl ga ?_
   with_reducible refine (soft_Calc_Mul.calls k1 g t419 a3 (rd l2 x23_1) t424 t425 w0 _ ?side1 ?side2 A15.out).mono ?_
   (case side1 => repeat (first | (with_reducible first | exact HI0.out | apply IsS27.alloc | apply IsS27.drewN | apply IsS27.drew | apply IsS27.set_0) | exact HI0.out))
   (case side2 => repeat (first | (with_reducible first | exact HB.out | apply below_alloc | apply pw_below_drewN | apply below_drew1 | refine below_set ?_ (IsS27.ge HI0.out)) | exact HB.out))
   rintro e w25 ⟨rfl, hi, hb, hk⟩
   refine ⟨_, rfl, ?_⟩
   refine ax5 (Kd.R_mono (Kd.R_keep (IsS27.apart (show IsS27 w0 _ g t419 from by repeat (first | (with_reducible first | exact HI0.out | apply IsS27.alloc | apply IsS27.drewN | apply IsS27.drew | apply IsS27.set_0) | exact HI0.out)) (kr HO_14) (by decide)) hk (fun _ h => h.2)) (fun _ h => h.1)) (Kd.R_mono (Kd.R_keep (IsS27.apart (show IsS27 w0 _ g t419 from by repeat (first | (with_reducible first | exact HI0.out | apply IsS27.alloc | apply IsS27.drewN | apply IsS27.drew | apply IsS27.set_0) | exact HI0.out)) (kr HO422) (by decide)) hk (fun _ h => h.2)) (fun _ h => h.1)) (KeepBut.trans (by repeat (first | (with_reducible first | exact HK.out | apply KeepBut.set_ | apply keep_drewN | apply keep_drew | apply keep_alloc) | exact HK.out)) hk (.inl rfl)) hb hi ?_
   clear HO_14 HO422 HK HB HI0
   intro HO_14 HO422 HK HB HI0
   (try clear hb)
   (try clear hb2)
   (try clear hk)
   (try clear hi)
   refine hK.out _ _ ⟨(keep_cell HK.out hw423_0 hne423_0), (keep_cell HK.out hw426_0 hne426_0)⟩ (fun hHeld => ?_)
   clear hK K
   refine norm_ (a' := ?_) ?_ ?_
   rotate_left
   ·
    show Act.put _ (some 53) _ = _
    simp only [Act.put, sa0, sa1, sa2, i64_w, i32_w]
    rfl
   refine one_ (i := 15) (N := some 60) #[true, true, true, true, true, true, true, true, true, true, true, true, true, true, true, true, false, false, false, false] rfl rfl (one_of HT_.out (by kernel_rfl)) (by decide) (fun K hK => ?_)
   refine goes_ Try.func12 (by kernel_rfl) rfl #[.pointer (some ⟨g, 0, none⟩), .int .u64 a4, .int .u64 (rd l1 x23_1)] (by rfl) rfl rfl ga ?_
   with_reducible refine (soft_Calc_Mul.calls k1 g t425 a4 (rd l1 x23_1) t427 t428 w0 _ ?side1 ?side2 A16.out).mono ?_
   (case side1 => repeat (first | (with_reducible first | exact HI0.out | apply IsS27.alloc | apply IsS27.drewN | apply IsS27.drew | apply IsS27.set_0) | exact HI0.out))
   (case side2 => repeat (first | (with_reducible first | exact HB.out | apply below_alloc | apply pw_below_drewN | apply below_drew1 | refine below_set ?_ (IsS27.ge HI0.out)) | exact HB.out))
   rintro e w26 ⟨rfl, hi, hb, hk⟩
   refine ⟨_, rfl, ?_⟩
   refine ax5 (Kd.R_mono (Kd.R_keep (IsS27.apart (show IsS27 w0 _ g t425 from by repeat (first | (with_reducible first | exact HI0.out | apply IsS27.alloc | apply IsS27.drewN | apply IsS27.drew | apply IsS27.set_0) | exact HI0.out)) (kr HO_14) (by decide)) hk (fun _ h => h.2)) (fun _ h => h.1)) (Kd.R_mono (Kd.R_keep (IsS27.apart (show IsS27 w0 _ g t425 from by repeat (first | (with_reducible first | exact HI0.out | apply IsS27.alloc | apply IsS27.drewN | apply IsS27.drew | apply IsS27.set_0) | exact HI0.out)) (kr HO422) (by decide)) hk (fun _ h => h.2)) (fun _ h => h.1)) (KeepBut.trans (by repeat (first | (with_reducible first | exact HK.out | apply KeepBut.set_ | apply keep_drewN | apply keep_drew | apply keep_alloc) | exact HK.out)) hk (.inl rfl)) hb hi ?_
   clear HO_14 HO422 HK HB HI0
   intro HO_14 HO422 HK HB HI0
   (try clear hb)
   (try clear hb2)
   (try clear hk)
   (try clear hi)
   refine hK.out _ _ ⟨(keep_cell HK.out hw423_0 hne423_0), (keep_cell HK.out hw426_0 hne426_0)⟩ (fun hHeld => ?_)
   clear hK K
   refine norm_ (a' := ?_) ?_ ?_
   rotate_left
   ·
    show Act.put _ (some 60) _ = _
    simp only [Act.put, sa0, sa1, sa2, i64_w, i32_w]
    rfl
   refine one_ (i := 16) (N := some 61) #[true, true, true, true, true, true, true, true, true, true, true, true, true, true, true, true, true, false, false, false] rfl rfl (one_of HT_.out (by kernel_rfl)) (by decide) (fun K hK => ?_)
   refine goes_ Try.func18 (by kernel_rfl) rfl #[.pointer (some ⟨g, 0, none⟩), .int .u64 t424, .int .u64 t427] (by rfl) rfl rfl ga ?_
   with_reducible refine (soft_Calc_Sub.calls k1 g t428 t424 t427 t429 t430 w0 _ ?side1 ?side2 A17.out).mono ?_
   (case side1 => repeat (first | (with_reducible first | exact HI0.out | apply IsS27.alloc | apply IsS27.drewN | apply IsS27.drew | apply IsS27.set_0) | exact HI0.out))
   (case side2 => repeat (first | (with_reducible first | exact HB.out | apply below_alloc | apply pw_below_drewN | apply below_drew1 | refine below_set ?_ (IsS27.ge HI0.out)) | exact HB.out))
   rintro e w27 ⟨rfl, hi, hb, hk⟩
   refine ⟨_, rfl, ?_⟩
   refine ax5 (Kd.R_mono (Kd.R_keep (IsS27.apart (show IsS27 w0 _ g t428 from by repeat (first | (with_reducible first | exact HI0.out | apply IsS27.alloc | apply IsS27.drewN | apply IsS27.drew | apply IsS27.set_0) | exact HI0.out)) (kr HO_14) (by decide)) hk (fun _ h => h.2)) (fun _ h => h.1)) (Kd.R_mono (Kd.R_keep (IsS27.apart (show IsS27 w0 _ g t428 from by repeat (first | (with_reducible first | exact HI0.out | apply IsS27.alloc | apply IsS27.drewN | apply IsS27.drew | apply IsS27.set_0) | exact HI0.out)) (kr HO422) (by decide)) hk (fun _ h => h.2)) (fun _ h => h.1)) (KeepBut.trans (by repeat (first | (with_reducible first | exact HK.out | apply KeepBut.set_ | apply keep_drewN | apply keep_drew | apply keep_alloc) | exact HK.out)) hk (.inl rfl)) hb hi ?_
   clear HO_14 HO422 HK HB HI0
   intro HO_14 HO422 HK HB HI0
   (try clear hb)
   (try clear hb2)
   (try clear hk)
   (try clear hi)
   refine hK.out _ _ ⟨(keep_cell HK.out hw423_0 hne423_0), (keep_cell HK.out hw426_0 hne426_0)⟩ (fun hHeld => ?_)
   clear hK K
   refine norm_ (a' := ?_) ?_ ?_
   rotate_left
   ·
    show Act.put _ (some 61) _ = _
    simp only [Act.put, sa0, sa1, sa2, i64_w, i32_w]
    rfl
   refine one_ (i := 17) (N := some 62) #[true, true, true, true, true, true, true, true, true, true, true, true, true, true, true, true, true, true, false, false] rfl rfl (one_of HT_.out (by kernel_rfl)) (by decide) (fun K hK => ?_)
   refine value_ (w1 := ?_) (v := ?_) (by rfl) rfl ?_ ?_
   rotate_left 2
   ·
    go_simp
    constructor
    ·
     rfl
    ·
     rfl
   refine hK.out _ _ ⟨(World.cell?_alloc_lt _ _ _ (World.block_lt_of_cell? _ _ ((keep_cell HK.out hw423_0 hne423_0)))).trans ((keep_cell HK.out hw423_0 hne423_0)), (World.cell?_alloc_lt _ _ _ (World.block_lt_of_cell? _ _ ((keep_cell HK.out hw426_0 hne426_0)))).trans ((keep_cell HK.out hw426_0 hne426_0))⟩ (fun hHeld => ?_)
   clear hK K
   refine norm_ (a' := ?_) ?_ ?_
   rotate_left
   ·
    show Act.put _ (some 62) _ = _
    simp only [Act.put, sa0, sa1, sa2, i64_w, i32_w]
    rfl
   refine one_ (i := 18) (N := some 63) #[true, true, true, true, true, true, true, true, true, true, true, true, true, true, true, true, true, true, true, false] rfl rfl (one_of HT_.out (by kernel_rfl)) (by decide) (fun K hK => ?_)
   refine Kd.R_append_step (Kd.int .u64) w.heap.size (by rfl) (.tmp 45) (.tmp 62) 22 28 (.int .u64 0) 8 rfl Try.underlying22 info28 rfl (by decide) (by omega) u14 x14_1 t429 [.int .u64 t429] (fun k_ => some k_ ≠ (v421 : Value).ownBlock) (fun _ => False) rfl rfl ?aP (fun _ hk => hk.elim) ?aF ?aO (Below.refl _ _) ?aS ?aL ?_
   (case aP => exact rfl)
   (case aF => exact (fun k_ hk => Kd.fresh' (Kd.R_lt (kr HO422)) k_ hk))
   (case aO => exact (by (with_reducible repeat (first | apply Kd.R_alloc | apply Kd.R_drewN | apply Kd.R_drew)); exact Kd.R_mono HO_14.out (fun _ hk => hk.2)))
   (case aS => exact (keep_size (w := w) (g := g) (row := none) (by repeat (first | (with_reducible first | exact HK.out | apply KeepBut.set_ | apply keep_drewN | apply keep_drew | apply keep_alloc) | exact HK.out))))
   (case aL => have := LMc18.out; omega)
   intro v432 w28 ho hb hg hat
   rw [← Ny431.out] at ho
   refine ax5 (IsS27.grown (by repeat (first | (with_reducible first | exact HI0.out | apply IsS27.alloc | apply IsS27.drewN | apply IsS27.drew | apply IsS27.set_0) | exact HI0.out)) hg (IsS27.own_ne HI0.out HO_14.out (by decide))) (Kd.R_after (ok := (fun _ => True)) (by (with_reducible repeat (first | apply Kd.R_alloc | apply Kd.R_drewN | apply Kd.R_drew)); exact Kd.R_mono HO422.out (fun _ hk => ⟨trivial, hk⟩)) hg hat) (below_weaken (by repeat (first | (with_reducible first | exact HB.out | apply below_alloc | apply pw_below_drewN | apply below_drew1 | refine below_set ?_ (IsS27.ge HI0.out)) | exact HB.out)) HL.out hb) (KeepBut.trans (by repeat (first | (with_reducible first | exact HK.out | apply KeepBut.set_ | apply keep_drewN | apply keep_drew | apply keep_alloc) | exact HK.out)) (KeepBut.of_grown hg g) (Kd.R_base2 HO_14.out)) ho ?_
   clear HI0 HO422 HB HK HO_14
   intro HI0 HO422 HB HK HO433
   clear ho hb hg hat
   refine hK.out _ _ ⟨(keep_cell HK.out hw423_0 hne423_0), (keep_cell HK.out hw426_0 hne426_0)⟩ (fun hHeld => ?_)
   clear hK K
   refine norm_ (a' := ?_) ?_ ?_
   rotate_left
   ·
    show Act.put _ (some 63) _ = _
    simp only [Act.put, sa0, sa1, sa2, i64_w, i32_w]
    rfl
   refine pure_ (i := 19) (N := some 14) (v := ?_) (a' := ?_) #[true, true, true, true, true, true, true, true, true, true, true, true, true, true, true, true, true, true, true, true] rfl rfl (any_of HT_.out (by kernel_rfl)) (fun _ _ _ h => h) (Or.inl ⟨by rfl, ?_⟩) ?_ ?_
   rotate_left
   ·
    intro w'
    go_simp
    with_reducible rfl
   rotate_left
   ·
    simp only [Act.put, sa0, sa1, sa2, i64_w, i32_w]
    rfl
   refine done_ (done_of HT_.out (by kernel_rfl)) ?_
   try go_wp2
   go_roundg k1
   case measure => have := HK1.out; omega
   case rel => exact ⟨(y420), (y431), (wrap64 (x23_1 + 1)), (t430), (by first | rfl | (simp; done) | (simp [*]; done)), H', ⟨by have := HK1.out; omega⟩, ⟨by (with_reducible repeat (first | apply Kd.R_alloc | apply Kd.R_drewN | apply Kd.R_drew)); exact Kd.R_mono HO422.out (fun _ hk => hk.2)⟩, ⟨kr HO433⟩, ⟨by repeat (first | (with_reducible first | exact HI0.out | apply IsS27.alloc | apply IsS27.drewN | apply IsS27.drew | apply IsS27.set_0) | exact HI0.out)⟩, ⟨by repeat (first | (with_reducible first | exact HK.out | apply KeepBut.set_ | apply keep_drewN | apply keep_drew | apply keep_alloc) | exact HK.out)⟩, ⟨by repeat (first | (with_reducible first | exact HB.out | apply below_alloc | apply pw_below_drewN | apply below_drew1 | refine below_set ?_ (IsS27.ge HI0.out)) | exact HB.out)⟩⟩
/-! ### vec_Scal: function 19 -/
def vec_Scal.l0 : Nat → Int → List Int → List Int → Int → Int → Int → Option (List Int × Int)
 | 0, _, _, _, _, _, _ => none
 | k + 1, x1, x7, x13, x14, x15, x1000 => if x15 < x14 then (if 0 ≤ x15 then (if x15 < (x13.length : Int) then ((soft_Calc_Mul.f k x1000 x1 (rd x13 x15)).bind fun bt451 => (if x7.length < 17592186044416 then (vec_Scal.l0 k x1 (x7 ++ [bt451.1]) x13 x14 (wrap64 (x15 + 1)) bt451.2) else (none))) else (none)) else (none)) else (some (x7, x1000))
def vec_Scal.f (k : Nat) (s0_0 : Int) (a1 : Int) (l2 : List Int) : Option (List Int × Int) := vec_Scal.l0 k a1 ([] : List Int) l2 (l2.length : Int) 0 s0_0
theorem vec_Scal.mono_l : ∀ k, (∀ y0 y1 y2 y3 y4 y5, LeO (vec_Scal.l0 k y0 y1 y2 y3 y4 y5) (vec_Scal.l0 (k + 1) y0 y1 y2 y3 y4 y5))
 | 0 => fun _ _ _ _ _ _ r h => by simp [vec_Scal.l0] at h
 | k + 1 => by
  have ih0 := vec_Scal.mono_l k
  ·
   intro y0 y1 y2 y3 y4 y5
   unfold vec_Scal.l0
   repeat' with_reducible first | apply ih0 | apply soft_Calc_Mul.mono | exact LeO.refl _ | exact LeO.none _ | refine LeO.ite ?_ ?_ | refine LeO.bind ?_ (fun _ => ?_)
theorem vec_Scal.mono : ∀ a0 a1 a2 k, LeO (vec_Scal.f k a0 a1 a2) (vec_Scal.f (k + 1) a0 a1 a2) := by
 intro a0 a1 a2 k
 have ih0 := vec_Scal.mono_l k
 unfold vec_Scal.f
 repeat' with_reducible first | apply ih0 | apply soft_Calc_Mul.mono | exact LeO.refl _ | exact LeO.none _ | refine LeO.ite ?_ ?_ | refine LeO.bind ?_ (fun _ => ?_)
set_option maxHeartbeats 8000000 in
set_option maxRecDepth 100000 in
theorem vec_Scal.calls (k : Nat) (g : Nat) (s0_0 : Int) (a1 : Int) (A2 : Option Addr) (c2 : Nat) (l2 : List Int) (r1 : List Int) (r2 : Int) (w0 w : World) (hI : IsS27 w0 w g s0_0) (hB : Below w0.heap.size w0 w) (hr2 : Kd.C (Kd.int .u64) w A2 l2.length l2) (hc2 : l2.length ≤ c2) (hf2 : ∀ ad, A2 = some ad → 0 < l2.length → ad.block ≠ g) (h : vec_Scal.f k s0_0 a1 l2 = some (r1, r2)) :
  Calls Try.prog 19 #[.pointer (some ⟨g, 0, none⟩), .int .u64 a1, .slice A2 l2.length c2] w fun e w' => ∃ v0_ : Value, e = .returned (v0_) ∧ Kd.R (Kd.int .u64) 28 w' w.heap.size (fun _ => True) v0_ r1 ∧ IsS27 w0 w' g r2 ∧ Below w0.heap.size w0 w' ∧ KeepBut w w' g none := by
 have HR2 := Aside0.mk hr2
 have HC2 := Aside0.mk hc2
 clear hr2 hc2
 have HI0 := Aside0.mk hI
 have HK := Aside0.mk (KeepBut.refl w g none)
 have HL := Aside0.mk hB.size
 clear hI
 have HW0 := Aside0.mk hB.size
 have HB := Aside0.mk hB
 clear hB
 have H : (vec_Scal.l0 k a1 ([] : List Int) l2 (l2.length : Int) 0 s0_0) = some (r1, r2) := h
 clear h
 have H' := Aside0.mk H
 clear H
 go_enter Try.func19, Try.ntmps19
 go_wp2
 go_loopg [7, 15] k (fun kq v7 v15 w' => ∃ (x7_1 : List Int) (x15_1 : Int) (x1000_1 : Int), v15 = .int .i64 x15_1 ∧ Aside0 (vec_Scal.l0 kq a1 x7_1 l2 (l2.length : Int) x15_1 x1000_1 = some (r1, r2)) ∧ Aside0 (kq ≤ k) ∧ Aside0 (Kd.R (Kd.int .u64) 28 w' w.heap.size (fun _ => True) v7 x7_1) ∧ Aside0 (IsS27 w0 w' g x1000_1) ∧ Aside0 (KeepBut w w' g none) ∧ Aside0 (Below w0.heap.size w0 w'))
 case atStart => exact ⟨(([] : List Int)), (0), (s0_0), (by first | rfl | (simp; done) | (simp [*]; done)), H', ⟨Nat.le_refl _⟩, ⟨by first | exact Kd.R_nil _ _ _ _ _ | exact Kd.N_nil _ _ _ _ _ | exact Kd.V_nil _ _ _ _ _ | exact Kd.Q_nil _ _ _ _ _ | exact Kd.S_nil _ _ _ _ _⟩, ⟨by repeat (first | (with_reducible first | exact HI0.out | apply IsS27.alloc | apply IsS27.drewN | apply IsS27.drew | apply IsS27.set_0) | exact HI0.out)⟩, ⟨by repeat (first | (with_reducible first | exact HK.out | apply KeepBut.set_ | apply keep_drewN | apply keep_drew | apply keep_alloc) | exact HK.out)⟩, ⟨by repeat (first | (with_reducible first | exact HB.out | apply below_alloc | apply pw_below_drewN | apply below_drew1 | refine below_set ?_ (IsS27.ge HI0.out)) | exact HB.out)⟩⟩
 case round =>
  clear H'
  try clear c1
  try clear c2
  try clear p2
  obtain ⟨x7_1, x15_1, x1000_1, rfl, HA, HK1, HO_7, HI0, HK, HB⟩ := hrel
  cases gk with
  | zero => exact absurd HA.out (by simp [vec_Scal.l0])
  | succ k1 =>
   have H := HA.out
   clear HA
   simp only [vec_Scal.l0] at H
   by_cases c4 : x15_1 < (l2.length : Int)
   rotate_left
   ·
    rw [if_neg c4] at H
    have c4b0 : decide (x15_1 < (l2.length : Int)) = false := decide_eq_false c4
    clear c4
    simp only [Option.some.injEq, Prod.mk.injEq] at H
    obtain ⟨rfl, rfl⟩ := H
    go_wp2
    go_ret
    exact ⟨_, er, kr HO_7, by repeat (first | (with_reducible first | exact HI0.out | apply IsS27.alloc | apply IsS27.drewN | apply IsS27.drew | apply IsS27.set_0) | exact HI0.out), by repeat (first | (with_reducible first | exact HB.out | apply below_alloc | apply pw_below_drewN | apply below_drew1 | refine below_set ?_ (IsS27.ge HI0.out)) | exact HB.out), by repeat (first | (with_reducible first | exact HK.out | apply KeepBut.set_ | apply keep_drewN | apply keep_drew | apply keep_alloc) | exact HK.out)⟩

   rw [if_pos c4] at H
   have c4b0 : decide (x15_1 < (l2.length : Int)) = true := decide_eq_true c4
   clear c4
   by_cases c5 : 0 ≤ x15_1
   rotate_left
   ·
    rw [if_neg c5] at H
    exact absurd H (by simp)
   rw [if_pos c5] at H
   have c5b0 : decide (0 ≤ x15_1) = true := decide_eq_true c5
   clear c5
   by_cases c6 : x15_1 < (l2.length : Int)
   rotate_left
   ·
    rw [if_neg c6] at H
    exact absurd H (by simp)
   rw [if_pos c6] at H
   have c6b0 : decide (x15_1 < (l2.length : Int)) = true := decide_eq_true c6
   clear c6
   obtain ⟨⟨t451, t452⟩, A70, H⟩ := Option.bind_eq_some_iff.mp H
   (try dsimp -simprocs only at H)
   have A7 := Aside0.mk A70
   clear A70
   by_cases c8 : x7_1.length < 17592186044416
   rotate_left
   ·
    rw [if_neg c8] at H
    exact absurd H (by simp)
   rw [if_pos c8] at H
   have LMc8 := Aside0.mk c8
   clear c8
   obtain ⟨y453, hy453⟩ : ∃ y_ : List Int, y_ = (x7_1 ++ [t451]) := ⟨_, rfl⟩
   replace H : (vec_Scal.l0 k1 a1 y453 l2 (l2.length : Int) (wrap64 (x15_1 + 1)) t452) = some (r1, r2) := by first | (rw [hy453]; with_reducible exact H) | (have H2_ := (Option.bind_some _ _).symm.trans H; rw [hy453]; with_reducible exact H2_) | (have H2_ := (Option.bind_some _ _).symm.trans H; with_reducible exact H2_) | with_reducible exact H | (rw [hy453]; exact H) | exact H
   have Ny453 := Aside0.mk hy453
   clear hy453
   have H' := Aside0.mk H
   clear H
   have p450 : 0 ≤ (x15_1 : Int) := of_decide_eq_true (by first | (with_reducible assumption) | assumption)
   have q450 : x15_1 < (l2.length : Int) := of_decide_eq_true (by first | (with_reducible assumption) | assumption)
   obtain ⟨ad450, e450, hx450_0⟩ := Kd.at_int HR2.out x15_1 p450 q450
   cases e450
   replace hx450_0 := keep_cell HK.out hx450_0 (by first | (rw [add_block]; exact hf2 _ rfl (by omega)) | exact hf2 _ rfl (by omega) | exact hf2 ad450 rfl (by omega))
   replace p450 := eq_true p450
   replace q450 := eq_true q450
   go_wp2_with (first | (go_at_call 12; (with_reducible refine (soft_Calc_Mul.calls k1 g x1000_1 a1 (rd l2 x15_1) t451 t452 w0 _ ?side1 ?side2 A7.out).mono ?_); (case side1 => repeat (first | (with_reducible first | exact HI0.out | apply IsS27.alloc | apply IsS27.drewN | apply IsS27.drew | apply IsS27.set_0) | exact HI0.out)); (case side2 => repeat (first | (with_reducible first | exact HB.out | apply below_alloc | apply pw_below_drewN | apply below_drew1 | refine below_set ?_ (IsS27.ge HI0.out)) | exact HB.out)); rintro e w9 ⟨rfl, hi, hb, hk⟩; refine ax4 (Kd.R_mono (Kd.R_keep (IsS27.apart (show IsS27 w0 _ g x1000_1 from by repeat (first | (with_reducible first | exact HI0.out | apply IsS27.alloc | apply IsS27.drewN | apply IsS27.drew | apply IsS27.set_0) | exact HI0.out)) (kr HO_7) (by decide)) hk (fun _ h => h.2)) (fun _ h => h.1)) (KeepBut.trans (by repeat (first | (with_reducible first | exact HK.out | apply KeepBut.set_ | apply keep_drewN | apply keep_drew | apply keep_alloc) | exact HK.out)) hk (.inl rfl)) hb hi ?_; clear HO_7; clear HK; clear HB; clear HI0; intro HO_7 HK HB HI0; (try clear hb)) | ((with_reducible refine gate_builtin (b := .append) (xs := #[.tmp 19, .tmp 24]) rfl ?_); at_builtin; refine Kd.R_append (Kd.int .u64) w.heap.size rfl (.tmp 19) (.tmp 24) 22 28 (.int .u64 0) 8 rfl Try.underlying22 info28 rfl (by decide) (by omega) u7 x7_1 t451 [.int .u64 t451] (fun _ => True) (fun _ => False) rfl rfl ?aP (fun _ hk => hk.elim) ?aF ?aO (Below.refl _ _) ?aS ?aL ?_; (case aP => exact rfl); (case aF => exact (fun _ _ => trivial)); (case aO => exact (kr HO_7)); (case aS => exact (keep_size (w := w) (g := g) (row := none) (by repeat (first | (with_reducible first | exact HK.out | apply KeepBut.set_ | apply keep_drewN | apply keep_drew | apply keep_alloc) | exact HK.out)))); (case aL => have := LMc8.out; omega); intro v454 w10 ho hb hg hat; rw [← Ny453.out] at ho; refine ax4 (IsS27.grown (by repeat (first | (with_reducible first | exact HI0.out | apply IsS27.alloc | apply IsS27.drewN | apply IsS27.drew | apply IsS27.set_0) | exact HI0.out)) hg (IsS27.own_ne HI0.out HO_7.out (by decide))) (below_weaken (by repeat (first | (with_reducible first | exact HB.out | apply below_alloc | apply pw_below_drewN | apply below_drew1 | refine below_set ?_ (IsS27.ge HI0.out)) | exact HB.out)) HL.out hb) (KeepBut.trans (by repeat (first | (with_reducible first | exact HK.out | apply KeepBut.set_ | apply keep_drewN | apply keep_drew | apply keep_alloc) | exact HK.out)) (KeepBut.of_grown hg g) (Kd.R_base2 HO_7.out)) ho ?_; clear HI0; clear HB; clear HK; clear HO_7; intro HI0 HB HK HO455; clear ho hb hg hat))
   go_roundg k1
   case measure => have := HK1.out; omega
   case rel => exact ⟨(y453), (wrap64 (x15_1 + 1)), (t452), (by first | rfl | (simp; done) | (simp [*]; done)), H', ⟨by have := HK1.out; omega⟩, ⟨kr HO455⟩, ⟨by repeat (first | (with_reducible first | exact HI0.out | apply IsS27.alloc | apply IsS27.drewN | apply IsS27.drew | apply IsS27.set_0) | exact HI0.out)⟩, ⟨by repeat (first | (with_reducible first | exact HK.out | apply KeepBut.set_ | apply keep_drewN | apply keep_drew | apply keep_alloc) | exact HK.out)⟩, ⟨by repeat (first | (with_reducible first | exact HB.out | apply below_alloc | apply pw_below_drewN | apply below_drew1 | refine below_set ?_ (IsS27.ge HI0.out)) | exact HB.out)⟩⟩
/-! ### vec_Asum: function 21 -/
def vec_Asum.l0 : Nat → Int → List Int → Int → Int → Int → Option (Int × Int)
 | 0, _, _, _, _, _ => none
 | k + 1, x5, x8, x9, x10, x1000 => if x10 < x9 then (if 0 ≤ x10 then (if x10 < (x8.length : Int) then ((word_Abs.f (rd x8 x10)).bind fun t462 => ((soft_Calc_Add.f k x1000 x5 t462).bind fun bt463 => (vec_Asum.l0 k bt463.1 x8 x9 (wrap64 (x10 + 1)) bt463.2))) else (none)) else (none)) else (some (x5, x1000))
def vec_Asum.f (k : Nat) (s0_0 : Int) (l1 : List Int) : Option (Int × Int) := vec_Asum.l0 k 0 l1 (l1.length : Int) 0 s0_0
theorem vec_Asum.mono_l : ∀ k, (∀ y0 y1 y2 y3 y4, LeO (vec_Asum.l0 k y0 y1 y2 y3 y4) (vec_Asum.l0 (k + 1) y0 y1 y2 y3 y4))
 | 0 => fun _ _ _ _ _ r h => by simp [vec_Asum.l0] at h
 | k + 1 => by
  have ih0 := vec_Asum.mono_l k
  ·
   intro y0 y1 y2 y3 y4
   unfold vec_Asum.l0
   repeat' with_reducible first | apply ih0 | apply soft_Calc_Add.mono | exact LeO.refl _ | exact LeO.none _ | refine LeO.ite ?_ ?_ | refine LeO.bind ?_ (fun _ => ?_)
theorem vec_Asum.mono : ∀ a0 a1 k, LeO (vec_Asum.f k a0 a1) (vec_Asum.f (k + 1) a0 a1) := by
 intro a0 a1 k
 have ih0 := vec_Asum.mono_l k
 unfold vec_Asum.f
 repeat' with_reducible first | apply ih0 | apply soft_Calc_Add.mono | exact LeO.refl _ | exact LeO.none _ | refine LeO.ite ?_ ?_ | refine LeO.bind ?_ (fun _ => ?_)
set_option maxHeartbeats 8000000 in
set_option maxRecDepth 100000 in
theorem vec_Asum.calls (k : Nat) (g : Nat) (s0_0 : Int) (A1 : Option Addr) (c1 : Nat) (l1 : List Int) (r1 : Int) (r2 : Int) (w0 w : World) (hI : IsS27 w0 w g s0_0) (hB : Below w0.heap.size w0 w) (hr1 : Kd.C (Kd.int .u64) w A1 l1.length l1) (hc1 : l1.length ≤ c1) (hf1 : ∀ ad, A1 = some ad → 0 < l1.length → ad.block ≠ g) (h : vec_Asum.f k s0_0 l1 = some (r1, r2)) :
  Calls Try.prog 21 #[.pointer (some ⟨g, 0, none⟩), .slice A1 l1.length c1] w fun e w' => e = .returned (.int .u64 r1) ∧ IsS27 w0 w' g r2 ∧ Below w0.heap.size w0 w' ∧ KeepBut w w' g none := by
 have HR1 := Aside0.mk hr1
 have HC1 := Aside0.mk hc1
 clear hr1 hc1
 have HI0 := Aside0.mk hI
 have HK := Aside0.mk (KeepBut.refl w g none)
 have HL := Aside0.mk hB.size
 clear hI
 have HW0 := Aside0.mk hB.size
 have HB := Aside0.mk hB
 clear hB
 have H : (vec_Asum.l0 k 0 l1 (l1.length : Int) 0 s0_0) = some (r1, r2) := h
 clear h
 have H' := Aside0.mk H
 clear H
 go_enter Try.func21, Try.ntmps21
 go_wp2
 go_loopg [5, 10] k (fun kq v5 v10 w' => ∃ (x5_1 : Int) (x10_1 : Int) (x1000_1 : Int), v5 = .int .u64 x5_1 ∧ v10 = .int .i64 x10_1 ∧ Aside0 (vec_Asum.l0 kq x5_1 l1 (l1.length : Int) x10_1 x1000_1 = some (r1, r2)) ∧ Aside0 (kq ≤ k) ∧ Aside0 (IsS27 w0 w' g x1000_1) ∧ Aside0 (KeepBut w w' g none) ∧ Aside0 (Below w0.heap.size w0 w'))
 case atStart => exact ⟨(0), (0), (s0_0), (by first | rfl | (simp; done) | (simp [*]; done)), (by first | rfl | (simp; done) | (simp [*]; done)), H', ⟨Nat.le_refl _⟩, ⟨by repeat (first | (with_reducible first | exact HI0.out | apply IsS27.alloc | apply IsS27.drewN | apply IsS27.drew | apply IsS27.set_0) | exact HI0.out)⟩, ⟨by repeat (first | (with_reducible first | exact HK.out | apply KeepBut.set_ | apply keep_drewN | apply keep_drew | apply keep_alloc) | exact HK.out)⟩, ⟨by repeat (first | (with_reducible first | exact HB.out | apply below_alloc | apply pw_below_drewN | apply below_drew1 | refine below_set ?_ (IsS27.ge HI0.out)) | exact HB.out)⟩⟩
 case round =>
  clear H'
  try clear c1
  try clear c2
  try clear p2
  obtain ⟨x5_1, x10_1, x1000_1, rfl, rfl, HA, HK1, HI0, HK, HB⟩ := hrel
  cases gk with
  | zero => exact absurd HA.out (by simp [vec_Asum.l0])
  | succ k1 =>
   have H := HA.out
   clear HA
   simp only [vec_Asum.l0] at H
   by_cases c3 : x10_1 < (l1.length : Int)
   rotate_left
   ·
    rw [if_neg c3] at H
    have c3b0 : decide (x10_1 < (l1.length : Int)) = false := decide_eq_false c3
    clear c3
    simp only [Option.some.injEq, Prod.mk.injEq] at H
    obtain ⟨rfl, rfl⟩ := H
    go_wp2
    go_ret
    exact ⟨er, by repeat (first | (with_reducible first | exact HI0.out | apply IsS27.alloc | apply IsS27.drewN | apply IsS27.drew | apply IsS27.set_0) | exact HI0.out), by repeat (first | (with_reducible first | exact HB.out | apply below_alloc | apply pw_below_drewN | apply below_drew1 | refine below_set ?_ (IsS27.ge HI0.out)) | exact HB.out), by repeat (first | (with_reducible first | exact HK.out | apply KeepBut.set_ | apply keep_drewN | apply keep_drew | apply keep_alloc) | exact HK.out)⟩

   rw [if_pos c3] at H
   have c3b0 : decide (x10_1 < (l1.length : Int)) = true := decide_eq_true c3
   clear c3
   by_cases c4 : 0 ≤ x10_1
   rotate_left
   ·
    rw [if_neg c4] at H
    exact absurd H (by simp)
   rw [if_pos c4] at H
   have c4b0 : decide (0 ≤ x10_1) = true := decide_eq_true c4
   clear c4
   by_cases c5 : x10_1 < (l1.length : Int)
   rotate_left
   ·
    rw [if_neg c5] at H
    exact absurd H (by simp)
   rw [if_pos c5] at H
   have c5b0 : decide (x10_1 < (l1.length : Int)) = true := decide_eq_true c5
   clear c5
   obtain ⟨t462, A60, H⟩ := Option.bind_eq_some_iff.mp H
   (try dsimp -simprocs only at H)
   have A6 := Aside0.mk A60
   clear A60
   obtain ⟨⟨t463, t464⟩, A70, H⟩ := Option.bind_eq_some_iff.mp H
   (try dsimp -simprocs only at H)
   have A7 := Aside0.mk A70
   clear A70
   have H' := Aside0.mk H
   clear H
   have p461 : 0 ≤ (x10_1 : Int) := of_decide_eq_true (by first | (with_reducible assumption) | assumption)
   have q461 : x10_1 < (l1.length : Int) := of_decide_eq_true (by first | (with_reducible assumption) | assumption)
   obtain ⟨ad461, e461, hx461_0⟩ := Kd.at_int HR1.out x10_1 p461 q461
   cases e461
   replace hx461_0 := keep_cell HK.out hx461_0 (by first | (rw [add_block]; exact hf1 _ rfl (by omega)) | exact hf1 _ rfl (by omega) | exact hf1 ad461 rfl (by omega))
   replace p461 := eq_true p461
   replace q461 := eq_true q461
   go_wp2_with (first | ((with_reducible refine gate_callee (f := 20) rfl ?_); refine goesL_ (some 17) rfl rfl Try.func20 (by kernel_rfl) rfl #[.int .u64 (rd l1 x10_1)] rfl ga ?_; (with_reducible refine (word_Abs.calls (rd l1 x10_1) t462 _ A6.out).mono ?_); rintro e w' ⟨rfl, ⟨nd, rfl⟩⟩; refine ⟨_, rfl, ?_⟩) | ((with_reducible refine gate_callee (f := 11) rfl ?_); refine goesL_ (some 18) rfl rfl Try.func11 (by kernel_rfl) rfl #[.pointer (some ⟨g, 0, none⟩), .int .u64 x5_1, .int .u64 t462] rfl ga ?_; (with_reducible refine (soft_Calc_Add.calls k1 g x1000_1 x5_1 t462 t463 t464 w0 _ ?side1 ?side2 A7.out).mono ?_); (case side1 => repeat (first | (with_reducible first | exact HI0.out | apply IsS27.alloc | apply IsS27.drewN | apply IsS27.drew | apply IsS27.set_0) | exact HI0.out)); (case side2 => repeat (first | (with_reducible first | exact HB.out | apply below_alloc | apply pw_below_drewN | apply below_drew1 | refine below_set ?_ (IsS27.ge HI0.out)) | exact HB.out)); rintro e w8 ⟨rfl, hi, hb, hk⟩; refine ⟨_, rfl, ?_⟩; refine ax3 (KeepBut.trans (by repeat (first | (with_reducible first | exact HK.out | apply KeepBut.set_ | apply keep_drewN | apply keep_drew | apply keep_alloc) | exact HK.out)) hk (.inl rfl)) hb hi ?_; clear HK; clear HB; clear HI0; intro HK HB HI0; (try clear hb)))
   go_roundg k1
   case measure => have := HK1.out; omega
   case rel => exact ⟨(t463), (wrap64 (x10_1 + 1)), (t464), (by first | rfl | (simp; done) | (simp [*]; done)), (by first | rfl | (simp; done) | (simp [*]; done)), H', ⟨by have := HK1.out; omega⟩, ⟨by repeat (first | (with_reducible first | exact HI0.out | apply IsS27.alloc | apply IsS27.drewN | apply IsS27.drew | apply IsS27.set_0) | exact HI0.out)⟩, ⟨by repeat (first | (with_reducible first | exact HK.out | apply KeepBut.set_ | apply keep_drewN | apply keep_drew | apply keep_alloc) | exact HK.out)⟩, ⟨by repeat (first | (with_reducible first | exact HB.out | apply below_alloc | apply pw_below_drewN | apply below_drew1 | refine below_set ?_ (IsS27.ge HI0.out)) | exact HB.out)⟩⟩
end Go.Proofs.Ytkkfghecmhmdpaa.F
