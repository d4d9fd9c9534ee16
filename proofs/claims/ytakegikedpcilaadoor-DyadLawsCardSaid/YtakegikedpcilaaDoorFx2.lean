-- Written by a program of this seat's session (mkprint), out of the translation.
import Derived.Test.YtakegikedpcilaaDoorShort
import Derived.Test.YtakegikedpcilaaDoorFx0
namespace Go.Proofs.YtakegikedpcilaaDoor.F
open Go.RowKit Go.Proofs.YtakegikedpcilaaDoorW.PrintWords Go.Proofs.YtakegikedpcilaaDoorW.PrintLast Go.Proofs.YtakegikedpcilaaDoorW.PrintMore
attribute [local go_sem] max2_int min2_int max_two min_two max_three min_three max_four min_four   -- for this text's walks alone
set_option linter.unusedVariables false
set_option linter.unusedSimpArgs false

/-! ### bits_TrailingZeros32: function 57 -/
/-- The library's table stands in the world. -/
def TabW (w : World) : Prop := TabAt 0 Lib.deBruijn32tab w
theorem TabW.drewN {w : World} (h : TabW w) (n : Nat) : TabW (w.drewN n) := h
theorem TabW.drew {w : World} (h : TabW w) : TabW w.drew := h
theorem TabW.below {w W : World} (h : TabW w) (hb : Below w.heap.size w W) : TabW W := fun j hj => (hb.cell (World.block_lt_of_cell? w _ (h j hj))).trans (h j hj)
def bits_TrailingZeros32.f (a0 : Int) : Option (Int) := if 0 ≤ a0 then (if a0 < 4294967296 then (some (Lib.ctz 32 a0.toNat : Int)) else none) else none
theorem bits_TrailingZeros32.zero (w : World) : Calls Tryd.prog 57 #[.int .u32 0] w fun e w' => e = .returned (.int .i64 32) ∧ w' = w := by
 go_enter Tryd.func57, Tryd.ntmps57
 go_wp2
 go_ret
 exact ⟨rfl, rfl⟩
set_option maxHeartbeats 1000000 in
theorem bits_TrailingZeros32.core (x k idx : Nat) (w : World) (hx0 : ((x : Int) == 0) = false)
  (key : bits BinOp.and IntKind.u32 (x : Int) (-(x : Int) % 4294967296) * 125613361 % 4294967296 / 134217728 = (idx : Int))
  (hi : idx < 32) (hk : k < 32) (hcell : w.cell? ⟨0, idx, none⟩ = some (.int .u8 k)) :
  Calls Tryd.prog 57 #[.int .u32 x] w fun e w' => e = .returned (.int .i64 k) ∧ w' = w := by
 go_enter Tryd.func57, Tryd.ntmps57
 go_wp2_with (simp only [key])
 go_ret
 exact ⟨rfl, rfl⟩
theorem bits_TrailingZeros32.calls (a0 : Int) (r : Int) (w : World) (hT : TabW w) (h : bits_TrailingZeros32.f a0 = some r) :
  Calls Tryd.prog 57 #[.int .u32 a0] w fun e w' => e = .returned (.int .i64 r) ∧ Drawn0 w w' := by
 unfold bits_TrailingZeros32.f at h
 by_cases h0 : 0 ≤ a0
 rotate_left
 ·
  rw [if_neg h0] at h; cases h

 by_cases h1 : a0 < 4294967296
 rotate_left
 ·
  rw [if_pos h0, if_neg h1] at h; cases h
 rw [if_pos h0, if_pos h1] at h
 obtain rfl := Option.some.inj h
 obtain ⟨x, rfl⟩ := Int.eq_ofNat_of_zero_le h0
 have hx : x < 4294967296 := by omega
 by_cases hx0 : x = 0
 ·
  subst hx0
  exact (bits_TrailingZeros32.zero w).mono fun e w' ⟨he, hw⟩ => ⟨he, hw ▸ Drawn0.refl _⟩
 ·
  obtain ⟨hlow, hk⟩ := Lib.lowest_bit 32 x hx0 hx
  obtain ⟨hi, htab⟩ := Lib.deBruijn32_at _ hk
  have hcell := hT _ hi
  rw [htab] at hcell
  exact (bits_TrailingZeros32.core x _ _ w (by simp; omega) (tz32_key x _ hx hx0 hlow) hi hk hcell).mono fun e w' ⟨he, hw⟩ => ⟨he, hw ▸ Drawn0.refl _⟩
/-! ### dyad_down: function 58 -/
def dyad_down.l0 : Nat → List Int → Int → List Int → Int → Int → Option (List Int)
 | 0, _, _, _, _, _ => none
 | k + 1, x0, x1, x5, x12, x13 => if x13 < x12 then (if 0 ≤ x13 then (if x13 < (x0.length : Int) then (if 0 ≤ x1 then (if x13 < (x5.length : Int) then ((some (x5.set (x13 : Int).toNat (shr .u32 (rd x0 x13) x1) : List Int)).bind fun y105 => (if (wrap64 (x13 + 1)) < (x0.length : Int) then (if 0 ≤ (wrap64 (x13 + 1)) then (if 0 ≤ (wrap64 (32 - x1)) then (dyad_down.l0 k x0 x1 (y105.set (x13 : Int).toNat (Go.bits .or .u32 (rd y105 x13) (shl .u32 (rd x0 (wrap64 (x13 + 1))) (wrap64 (32 - x1))))) x12 (wrap64 (x13 + 1))) else (none)) else (none)) else (dyad_down.l0 k x0 x1 y105 x12 (wrap64 (x13 + 1))))) else (none)) else (none)) else (none)) else (none)) else (if (x5.length : Int) > 0 then (if 0 ≤ (wrap64 ((x5.length : Int) - 1)) then (if (wrap64 ((x5.length : Int) - 1)) < (x5.length : Int) then (if (rd x5 (wrap64 ((x5.length : Int) - 1))) = 0 then (if (wrap64 ((x5.length : Int) - 1)) ≤ (x5.length : Int) then (some (x5.take ((wrap64 ((x5.length : Int) - 1)) : Int).toNat)) else (none)) else (some x5)) else (none)) else (none)) else (some x5))
def dyad_down.f (k : Nat) (l0 : List Int) (a1 : Int) : Option (List Int) := if 0 ≤ (l0.length : Int) then (if ((l0.length : Int) : Int).toNat ≤ 70368744177664 then (dyad_down.l0 k l0 a1 (List.replicate ((l0.length : Int) : Int).toNat 0) (l0.length : Int) 0) else (none)) else (none)
theorem dyad_down.mono_l : ∀ k, (∀ y0 y1 y2 y3 y4, LeO (dyad_down.l0 k y0 y1 y2 y3 y4) (dyad_down.l0 (k + 1) y0 y1 y2 y3 y4))
 | 0 => fun _ _ _ _ _ r h => by simp [dyad_down.l0] at h
 | k + 1 => by
  have ih0 := dyad_down.mono_l k
  ·
   intro y0 y1 y2 y3 y4
   unfold dyad_down.l0
   repeat' with_reducible first | apply ih0 | exact LeO.refl _ | exact LeO.none _ | refine LeO.ite ?_ ?_ | refine LeO.bind ?_ (fun _ => ?_)
theorem dyad_down.mono : ∀ a0 a1 k, LeO (dyad_down.f k a0 a1) (dyad_down.f (k + 1) a0 a1) := by
 intro a0 a1 k
 have ih0 := dyad_down.mono_l k
 unfold dyad_down.f
 repeat' with_reducible first | apply ih0 | exact LeO.refl _ | exact LeO.none _ | refine LeO.ite ?_ ?_ | refine LeO.bind ?_ (fun _ => ?_)
def dyad_down.T7 : Bool × List (List Nat × List Nat) := (true, [([], []), ([], []), ([0, 1], [0, 1]), ([2], [2]), ([], []), ([], []), ([5], [5]), ([4, 6], [4, 6]), ([7], [7]), ([], []), ([9], [9]), ([8, 10], [8, 10]), ([3, 11], [3, 11]), ([0, 1, 0, 1, 2, 3, 4, 5, 6, 7, 8, 9, 10, 11, 12], [0, 1]), ([13, 12, 0, 1, 2, 3, 4, 5, 6, 7, 8, 9, 10, 11, 12], [12, 13])])
def dyad_down.B7 : List Nat := [0, 0, 3, 7, 0, 0, 32, 112, 240, 0, 512, 2032, 4095, 8191, 16383]
theorem dyad_down.tab7 : rtab .any (opsOf Tryd.f58 7) = dyad_down.T7 := by kernel_rfl
theorem dyad_down.bits7 : waitsOk dyad_down.T7.2 dyad_down.B7 = true := by kernel_rfl
set_option maxHeartbeats 8000000 in
set_option maxRecDepth 100000 in
theorem dyad_down.calls (k : Nat) (A0 : Option Addr) (c0 : Nat) (l0 : List Int) (a1 : Int) (r : List Int) (w : World) (hr0 : Kd.C (Kd.int .u32) w A0 l0.length l0) (hc0 : l0.length ≤ c0) (h : dyad_down.f k l0 a1 = some r) :
  Calls Tryd.prog 58 #[.slice A0 l0.length c0, .int .i64 a1] w fun e w' => ∃ v0_ : Value, e = .returned (v0_) ∧ Kd.V (Kd.int .u32) 56 w' w.heap.size (fun k_ => (w.heap.size ≤ k_)) v0_ r ∧ Below w.heap.size w w' := by
 have HR0 := Aside0.mk hr0
 have HC0 := Aside0.mk hc0
 clear hr0 hc0
 have HB := Aside0.mk (Below.refl w.heap.size w)
 have H : (if 0 ≤ (l0.length : Int) then (if ((l0.length : Int) : Int).toNat ≤ 70368744177664 then (dyad_down.l0 k l0 a1 (List.replicate ((l0.length : Int) : Int).toNat 0) (l0.length : Int) 0) else (none)) else (none)) = some r := h
 clear h
 by_cases c3 : 0 ≤ (l0.length : Int)
 rotate_left
 ·
  rw [if_neg c3] at H
  exact absurd H (by simp)

 rw [if_pos c3] at H
 have c3b0 := eq_true c3
 have c3b1 : decide (0 ≤ (l0.length : Int)) = true := decide_eq_true c3
 clear c3
 by_cases c4 : ((l0.length : Int) : Int).toNat ≤ 70368744177664
 rotate_left
 ·
  rw [if_neg c4] at H
  exact absurd H (by simp)
 rw [if_pos c4] at H
 have c4b0 := eq_true c4
 have c4b1 : decide (((l0.length : Int) : Int).toNat ≤ 70368744177664) = true := decide_eq_true c4
 clear c4
 obtain ⟨y101, hy101⟩ : ∃ y_ : List Int, y_ = (List.replicate ((l0.length : Int) : Int).toNat 0) := ⟨_, rfl⟩
 replace H : (dyad_down.l0 k l0 a1 y101 (l0.length : Int) 0) = some r := by first | (rw [hy101]; with_reducible exact H) | (have H2_ := (Option.bind_some _ _).symm.trans H; rw [hy101]; with_reducible exact H2_) | (have H2_ := (Option.bind_some _ _).symm.trans H; with_reducible exact H2_) | with_reducible exact H | (rw [hy101]; exact H) | exact H
 have Ny101 := Aside0.mk hy101
 clear hy101
 have H' := Aside0.mk H
 clear H
 go_enter Tryd.func58, Tryd.ntmps58
 go_wp2_with (first | ((with_reducible refine gate_dst (N := 10) rfl ?_); refine Kd.R_make (Kd.int .u32) _ 56 rfl (N := 10) rfl 24 _ _ rfl (l0.length : Int) rfl rfl Tryd.underlying24 (.int .u32 0) 4 info56 rfl (by decide) (by omega) 0 (ok := fun _ => True) (okp := fun _ => True) rfl (fun _ hk => hk) trivial (of_decide_eq_true (by first | (with_reducible assumption) | assumption)) (Nat.le_trans (Nat.mul_le_mul_right _ (of_decide_eq_true (by first | (with_reducible assumption) | assumption) : (l0.length : Int).toNat ≤ 70368744177664)) (by omega)) (Below.refl _ _) (Nat.le_refl _) ?_; intro v102 w5 ho6 hb hg_ hnew_; clear hg_ hnew_; (first | rw [← Ny101.out] at ho6 | (simp only [Int.reduceToNat] at ho6; rw [← Ny101.out] at ho6)); refine ax2 (Kd.R_lower (Kd.R_newM (M := fun k_ => (w.heap.size ≤ k_)) ho6 (below_size bel) (fun k_ h_ => h_)) (below_size bel)) (below_step bel hb) ?_; clear HB; intro HO103 HB; clear hb ho6))
 go_loopg [13] k (fun kq v13 w' => ∃ (x5_1 : List Int) (x13_1 : Int), v13 = .int .i64 x13_1 ∧ Aside0 (dyad_down.l0 kq l0 a1 x5_1 (l0.length : Int) x13_1 = some r) ∧ Aside0 (kq ≤ k) ∧ Aside0 (Kd.R (Kd.int .u32) 56 w' w.heap.size (fun k_ => (w.heap.size ≤ k_)) v102 x5_1) ∧ Aside0 (Below w.heap.size w w'))
 case atStart => exact ⟨(y101), (0), (by first | rfl | (simp; done) | (simp [*]; done)), H', ⟨Nat.le_refl _⟩, ⟨by (with_reducible repeat (first | apply Kd.R_alloc | apply Kd.R_drewN | apply Kd.R_drew)); exact Kd.R_mono HO103.out (fun _ hk => hk.1)⟩, ⟨bel⟩⟩
 case round =>
  clear H'
  try clear p2
  try clear c3
  try clear c3b0
  try clear c3b1
  try clear c4
  try clear c4b0
  try clear c4b1
  try clear c5
  obtain ⟨x5_1, x13_1, rfl, HA, HK1, HO_5, HB⟩ := hrel
  cases gk with
  | zero => exact absurd HA.out (by simp [dyad_down.l0])
  | succ k1 =>
   have H := HA.out
   clear HA
   simp only [dyad_down.l0] at H
   by_cases c7 : x13_1 < (l0.length : Int)
   ·
    rw [if_pos c7] at H
    have c7b0 : decide (x13_1 < (l0.length : Int)) = true := decide_eq_true c7
    clear c7
    by_cases c8 : 0 ≤ x13_1
    rotate_left
    ·
     rw [if_neg c8] at H
     exact absurd H (by simp)
    rw [if_pos c8] at H
    have c8b0 : decide (0 ≤ x13_1) = true := decide_eq_true c8
    clear c8
    by_cases c9 : x13_1 < (l0.length : Int)
    rotate_left
    ·
     rw [if_neg c9] at H
     exact absurd H (by simp)
    rw [if_pos c9] at H
    have c9b0 : decide (x13_1 < (l0.length : Int)) = true := decide_eq_true c9
    clear c9
    by_cases c10 : 0 ≤ a1
    rotate_left
    ·
     rw [if_neg c10] at H
     exact absurd H (by simp)
    rw [if_pos c10] at H
    have c10b0 := eq_true c10
    have c10b1 : decide (0 ≤ a1) = true := decide_eq_true c10
    clear c10
    obtain ⟨ji11, hji11⟩ : ∃ j_ : Int, (shr .u32 (rd l0 x13_1) a1) = j_ := ⟨_, rfl⟩
    replace H : (if x13_1 < (x5_1.length : Int) then ((some (x5_1.set (x13_1 : Int).toNat (ji11) : List Int)).bind fun y105 => (if (wrap64 (x13_1 + 1)) < (l0.length : Int) then (if 0 ≤ (wrap64 (x13_1 + 1)) then (if 0 ≤ (wrap64 (32 - a1)) then (dyad_down.l0 k1 l0 a1 (y105.set (x13_1 : Int).toNat (Go.bits .or .u32 (rd y105 x13_1) (shl .u32 (rd l0 (wrap64 (x13_1 + 1))) (wrap64 (32 - a1))))) (l0.length : Int) (wrap64 (x13_1 + 1))) else (none)) else (none)) else (dyad_down.l0 k1 l0 a1 y105 (l0.length : Int) (wrap64 (x13_1 + 1))))) else (none)) = some r := by first | (rw [hji11] at H; exact H) | (simp only [hji11] at H ⊢; exact H)
    have hji11_ : ((rd l0 x13_1) / 2 ^ min a1.toNat 32) = ji11 := hji11
    have hji11z : a1 ≤ 32 → ((rd l0 x13_1) / 2 ^ a1.toNat) = ji11 := shr_small hji11
    by_cases c12 : x13_1 < (x5_1.length : Int)
    rotate_left
    ·
     rw [if_neg c12] at H
     exact absurd H (by simp)
    rw [if_pos c12] at H
    have c12b0 : decide (x13_1 < (x5_1.length : Int)) = true := decide_eq_true c12
    clear c12
    obtain ⟨y105, hy105⟩ : ∃ y_ : List Int, y_ = (x5_1.set (x13_1 : Int).toNat (ji11)) := ⟨_, rfl⟩
    replace H : (if (wrap64 (x13_1 + 1)) < (l0.length : Int) then (if 0 ≤ (wrap64 (x13_1 + 1)) then (if 0 ≤ (wrap64 (32 - a1)) then (dyad_down.l0 k1 l0 a1 (y105.set (x13_1 : Int).toNat (Go.bits .or .u32 (rd y105 x13_1) (shl .u32 (rd l0 (wrap64 (x13_1 + 1))) (wrap64 (32 - a1))))) (l0.length : Int) (wrap64 (x13_1 + 1))) else (none)) else (none)) else (dyad_down.l0 k1 l0 a1 y105 (l0.length : Int) (wrap64 (x13_1 + 1)))) = some r := by first | (rw [hy105]; with_reducible exact H) | (have H2_ := (Option.bind_some _ _).symm.trans H; rw [hy105]; with_reducible exact H2_) | (have H2_ := (Option.bind_some _ _).symm.trans H; with_reducible exact H2_) | with_reducible exact H | (rw [hy105]; exact H) | exact H
    have Ny105 := Aside0.mk hy105
    clear hy105
    by_cases c14 : (wrap64 (x13_1 + 1)) < (l0.length : Int)
    ·
     rw [if_pos c14] at H
     have c14b0 : decide ((wrap64 (x13_1 + 1)) < (l0.length : Int)) = true := decide_eq_true c14
     clear c14
     obtain ⟨ji15, hji15⟩ : ∃ j_ : Int, (wrap64 (x13_1 + 1)) = j_ := ⟨_, rfl⟩
     replace H : (if 0 ≤ (ji15) then (if 0 ≤ (wrap64 (32 - a1)) then (dyad_down.l0 k1 l0 a1 (y105.set (x13_1 : Int).toNat (Go.bits .or .u32 (rd y105 x13_1) (shl .u32 (rd l0 (ji15)) (wrap64 (32 - a1))))) (l0.length : Int) ji15) else (none)) else (none)) = some r := by first | (rw [hji15] at H; exact H) | (simp only [hji15] at H ⊢; exact H)
     (try rw [hji15] at c14b0)
     have hji15w : (IntKind.i64.wrap (x13_1 + 1)) = ji15 := (i64_w _).trans hji15
     by_cases c16 : 0 ≤ (ji15)
     rotate_left
     ·
      rw [if_neg c16] at H
      exact absurd H (by simp)
     rw [if_pos c16] at H
     have c16b0 : decide (0 ≤ (ji15)) = true := decide_eq_true c16
     clear c16
     obtain ⟨ji17, hji17⟩ : ∃ j_ : Int, (wrap64 (32 - a1)) = j_ := ⟨_, rfl⟩
     replace H : (if 0 ≤ (ji17) then (dyad_down.l0 k1 l0 a1 (y105.set (x13_1 : Int).toNat (Go.bits .or .u32 (rd y105 x13_1) (shl .u32 (rd l0 (ji15)) (ji17)))) (l0.length : Int) ji15) else (none)) = some r := by first | (rw [hji17] at H; exact H) | (simp only [hji17] at H ⊢; exact H)
     have hji17w : (IntKind.i64.wrap (32 - a1)) = ji17 := (i64_w _).trans hji17
     by_cases c18 : 0 ≤ (ji17)
     rotate_left
     ·
      rw [if_neg c18] at H
      exact absurd H (by simp)
     rw [if_pos c18] at H
     have c18b0 := eq_true c18
     have c18b1 : decide (0 ≤ (ji17)) = true := decide_eq_true c18
     clear c18
     obtain ⟨ji19, hji19⟩ : ∃ j_ : Int, (shl .u32 (rd l0 (ji15)) (ji17)) = j_ := ⟨_, rfl⟩
     replace H : (dyad_down.l0 k1 l0 a1 (y105.set (x13_1 : Int).toNat (Go.bits .or .u32 (rd y105 x13_1) (ji19))) (l0.length : Int) ji15) = some r := by first | (rw [hji19] at H; exact H) | (simp only [hji19] at H ⊢; exact H)
     have hji19_ : (IntKind.u32.wrap ((rd l0 (ji15)) * 2 ^ min (ji17).toNat 32)) = ji19 := hji19
     have hji19z : (ji17) ≤ 32 → (IntKind.u32.wrap ((rd l0 (ji15)) * 2 ^ (ji17).toNat)) = ji19 := shl_small hji19
     obtain ⟨y108, hy108⟩ : ∃ y_ : List Int, y_ = (y105.set (x13_1 : Int).toNat (Go.bits .or .u32 (rd y105 x13_1) (ji19))) := ⟨_, rfl⟩
     replace H : (dyad_down.l0 k1 l0 a1 y108 (l0.length : Int) ji15) = some r := by first | (rw [hy108]; with_reducible exact H) | (have H2_ := (Option.bind_some _ _).symm.trans H; rw [hy108]; with_reducible exact H2_) | (have H2_ := (Option.bind_some _ _).symm.trans H; with_reducible exact H2_) | with_reducible exact H | (rw [hy108]; exact H) | exact H
     have Ny108 := Aside0.mk hy108
     clear hy108
     have H' := Aside0.mk H
     clear H
     have p104 : 0 ≤ (x13_1 : Int) := of_decide_eq_true (by first | (with_reducible assumption) | assumption)
     have q104 : x13_1 < (l0.length : Int) := of_decide_eq_true (by first | (with_reducible assumption) | assumption)
     obtain ⟨ad104, e104, hx104_0⟩ := Kd.at_int HR0.out x13_1 p104 q104
     cases e104
     replace hx104_0 := (HB.out.cell (World.block_lt_of_cell? w _ hx104_0)).trans hx104_0
     replace p104 := eq_true p104
     replace q104 := eq_true q104
     have p13 : 0 ≤ (x13_1 : Int) := of_decide_eq_true (by first | (with_reducible assumption) | assumption)
     have q13 : (x13_1 : Int) < ((x5_1.length : Int) : Int) := of_decide_eq_true (by first | (with_reducible assumption) | assumption)
     obtain ⟨go13, co13, eo13, gb13, gl13, cl13, HG13⟩ := Kd.R_form HO_5.out (by omega)
     (first | cases eo13 | (injection eo13 with ea_ en_ ec_; (first | subst ea_ | (injection ea_ with ea_; subst ea_)); subst ec_; clear en_))
     have GB13 := Aside0.mk gb13
     have GG13 := Aside0.mk HG13
     clear gb13 gl13 HG13
     obtain ⟨hx13_0, hf13_0⟩ := Kd.R_celln 0 HO_5.out (x13_1 : Int) p13 q13
     replace p13 := eq_true p13
     replace q13 := eq_true q13
     have HP21 := Kd.R_putg HO_5.out (x13_1 : Int) ji11
     try go_wp2_with (first | ((with_reducible refine gate_store (t := 56) (p := 24) rfl ?_); refine store_event (t := 56) (p := 24) (v := ?vo_w22) (w1 := (wr.setCell ⟨go13, (x13_1 : Int).toNat, none⟩ (.int .u32 ji11))) ?hg ?ho ?hn ?hr ?_; (case ho => rfl); (case hg => rfl); (case hn => rfl); (case hr => first | (go_simp; done) | (go_simp; rfl)); intro w22 hw; have hg : wr.grownBy w22 (some go13) := (by rw [hw]; exact HP21.2); have hp_ : Kd.R (Kd.int .u32) 56 w22 w.heap.size (fun k_ => (w.heap.size ≤ k_)) (.slice (some ⟨go13, 0, none⟩) x5_1.length co13) y105 := (by rw [hw, Ny105.out]; exact HP21.1); clear HP21; refine ax2 hp_ ((by rw [hw]; exact below_set (HB.out) GB13.out : Below w.heap.size w w22)) ?_; clear HO_5; clear HB; intro HO_5 HB; clear hg hw hp_))
     refine ax2 (Kd.R_drew HO_5.out) (below_drew1 HB.out) ?_
     clear HO_5 HB
     intro HO_5 HB
     have p106 : 0 ≤ (x13_1 : Int) := of_decide_eq_true (by first | (with_reducible assumption) | assumption)
     have q106 : x13_1 < (y105.length : Int) := (by have h_ : (x13_1 : Int) < ((x5_1.length : Int) : Int) := of_decide_eq_true (by first | (with_reducible assumption) | assumption); first | (have e_ := (Kd.R_reads' HO_5.out).1; omega) | simpa only [Ny105.out, List.length_set] using h_)
     have ql106 : ((x13_1 : Int) < ((x5_1.length : Int) : Int)) = True := eq_true (of_decide_eq_true (by first | (with_reducible assumption) | assumption))
     obtain ⟨ad106, e106, hx106_0⟩ := Kd.at_int (Kd.R_reads' HO_5.out).2.2 x13_1 p106 q106
     obtain rfl : (⟨go13, 0, none⟩ : Addr) = ad106 := (by injection e106)
     (first | simp only [add_plain] at hx106_0 | simp only [add_at] at hx106_0 | simp only [Addr.add, Nat.zero_add] at hx106_0 | skip)
     replace p106 := eq_true p106
     replace q106 := eq_true q106
     have p107 : 0 ≤ ((ji15) : Int) := of_decide_eq_true (by first | (with_reducible assumption) | assumption)
     have q107 : (ji15) < (l0.length : Int) := of_decide_eq_true (by first | (with_reducible assumption) | assumption)
     obtain ⟨ad107, e107, hx107_0⟩ := Kd.at_int HR0.out (ji15) p107 q107
     have hw107_0 := hx107_0
     obtain rfl : ad104 = ad107 := (by injection e107)
     replace hx107_0 := (HB.out.cell (World.block_lt_of_cell? w _ hx107_0)).trans hx107_0
     replace p107 := eq_true p107
     replace q107 := eq_true q107
     have p20 : 0 ≤ (x13_1 : Int) := of_decide_eq_true (by first | (with_reducible assumption) | assumption)
     have q20 : (x13_1 : Int) < ((x5_1.length : Int) : Int) := of_decide_eq_true (by first | (with_reducible assumption) | assumption)
     obtain ⟨hx20_0, hf20_0⟩ := Kd.R_celln 0 HO_5.out (x13_1 : Int) p20 q20
     replace p20 := eq_true p20
     replace q20 := eq_true q20
     have HP24 := Kd.R_putn HO_5.out (x13_1 : Int) (Go.bits .or .u32 (rd y105 x13_1) (ji19))
     rw [← Ny108.out] at HP24
     have HQ24 := Aside0.mk HP24
     clear HP24
     refine start_ (n := 15) (S := fun w' => w'.cell? ⟨go13, (x13_1).toNat, none⟩ = some (.int .u32 (rd y105 x13_1)) ∧ w'.cell? (ad104.add ((ji15)).toNat) = some (.int .u32 (rd l0 (ji15)))) (ds := [14]) #[false, false, false, false, false, false, false, false, false, false, false, false, false, false, false] (by kernel_rfl) rfl rfl ⟨hx106_0, ((HB.out.cell (World.block_lt_of_cell? w _ hw107_0)).trans hw107_0)⟩ (fun hHeld => ?_); refine with_tabW dyad_down.tab7 dyad_down.bits7 (fun HT_ HW_ => ?_)
     generalize w22.drew = w23 at HO_5 HB HQ24 hf20_0 hx106_0 hx107_0 hx20_0 hHeld ⊢
     refine pure_ (i := 0) (N := some 30) (v := ?_) (a' := ?_) #[true, false, false, false, false, false, false, false, false, false, false, false, false, false, false] rfl rfl (any_of HT_.out (by kernel_rfl)) (fun _ _ _ h => h) (Or.inl ⟨by rfl, ?_⟩) ?_ ?_
     rotate_left
     ·
      intro w'
      go_simp
      with_reducible rfl
     rotate_left
     ·
      simp only [Act.put, sa0, sa1, sa2, i64_w, i32_w]
      rfl
     refine pure_ (i := 1) (N := some 31) (v := ?_) (a' := ?_) #[true, true, false, false, false, false, false, false, false, false, false, false, false, false, false] rfl rfl (any_of HT_.out (by kernel_rfl)) (fun _ _ _ h => h) (Or.inl ⟨by rfl, ?_⟩) ?_ ?_
     rotate_left
     ·
      intro w'
      go_simp
      with_reducible rfl
     rotate_left
     ·
      simp only [Act.put, sa0, sa1, sa2, i64_w, i32_w]
      rfl
     refine pure_ (i := 2) (N := some 32) (v := ?_) (a' := ?_) #[true, true, true, false, false, false, false, false, false, false, false, false, false, false, false] rfl rfl (any_of HT_.out (by kernel_rfl)) (fun _ _ _ h => h) (Or.inl ⟨by rfl, ?_⟩) ?_ ?_
     rotate_left
     ·
      intro w'
      go_simp
      with_reducible rfl
     rotate_left
     ·
      simp only [Act.put, sa0, sa1, sa2, i64_w, i32_w]
      rfl
     refine pure_ (i := 4) (N := some 34) (v := ?_) (a' := ?_) #[true, true, true, false, true, false, false, false, false, false, false, false, false, false, false] rfl rfl (any_of HT_.out (by kernel_rfl)) (fun _ _ _ h => h) (Or.inl ⟨by rfl, ?_⟩) ?_ ?_
     rotate_left
     ·
      intro w'
      go_simp
      with_reducible rfl
     rotate_left
     ·
      simp only [Act.put, sa0, sa1, sa2, i64_w, i32_w]
      rfl
     refine pure_ (i := 5) (N := some 35) (v := ?_) (a' := ?_) #[true, true, true, false, true, true, false, false, false, false, false, false, false, false, false] rfl rfl (any_of HT_.out (by kernel_rfl)) (fun _ _ _ h => h) (Or.inl ⟨by rfl, ?_⟩) ?_ ?_
     rotate_left
     ·
      intro w'
      go_simp
      with_reducible rfl
     rotate_left
     ·
      simp only [Act.put, sa0, sa1, sa2, i64_w, i32_w]
      rfl
     refine pure_ (i := 6) (N := some 36) (v := ?_) (a' := ?_) #[true, true, true, false, true, true, true, false, false, false, false, false, false, false, false] rfl rfl (any_of HT_.out (by kernel_rfl)) (fun _ _ _ h => h) (Or.inl ⟨by rfl, ?_⟩) ?_ ?_
     rotate_left
     ·
      intro w'
      go_simp
      with_reducible rfl
     rotate_left
     ·
      simp only [Act.put, sa0, sa1, sa2, i64_w, i32_w]
      rfl
     refine pure_ (i := 7) (N := some 37) (v := ?_) (a' := ?_) #[true, true, true, false, true, true, true, true, false, false, false, false, false, false, false] rfl rfl (any_of HT_.out (by kernel_rfl)) (fun _ _ _ h => h) (Or.inl ⟨by rfl, ?_⟩) ?_ ?_
     rotate_left
     ·
      intro w'
      go_simp
      with_reducible rfl
     rotate_left
     ·
      simp only [Act.put, sa0, sa1, sa2, i64_w, i32_w]
      rfl
     refine pure_ (i := 9) (N := some 39) (v := ?_) (a' := ?_) #[true, true, true, false, true, true, true, true, false, true, false, false, false, false, false] rfl rfl (any_of HT_.out (by kernel_rfl)) (fun _ _ _ h => h) (Or.inl ⟨by rfl, ?_⟩) ?_ ?_
     rotate_left
     ·
      intro w'
      go_simp
      with_reducible rfl
     rotate_left
     ·
      simp only [Act.put, sa0, sa1, sa2, i64_w, i32_w]
      rfl
     refine pure_ (i := 10) (N := some 40) (v := ?_) (a' := ?_) #[true, true, true, false, true, true, true, true, false, true, true, false, false, false, false] rfl rfl (any_of HT_.out (by kernel_rfl)) (fun _ _ _ h => h) (Or.inl ⟨by rfl, ?_⟩) ?_ ?_
     rotate_left
     ·
      intro w'
      go_simp
      with_reducible rfl
     rotate_left
     ·
      simp only [Act.put, sa0, sa1, sa2, i64_w, i32_w]
      rfl
     refine take_ (i := 3) (N := some 33) (v := ?_) (a' := ?_) #[true, true, true, true, true, true, true, true, false, true, true, false, false, false, false] rfl rfl (take_ofW HT_.out HW_.out (by kernel_rfl)) (fun _ _ _ h => h) (Or.inl ⟨by rfl, ?_⟩) hHeld ?_ ?_
     rotate_left
     ·
      rintro w' ⟨s0, s1⟩
      go_simp
      with_reducible rfl
     rotate_left
     ·
      simp only [Act.put, sa0, sa1, sa2, i64_w, i32_w]
      rfl
     refine take_ (i := 8) (N := some 38) (v := ?_) (a' := ?_) #[true, true, true, true, true, true, true, true, true, true, true, false, false, false, false] rfl rfl (take_ofW HT_.out HW_.out (by kernel_rfl)) (fun _ _ _ h => h) (Or.inl ⟨by rfl, ?_⟩) hHeld ?_ ?_
     rotate_left
     ·
      rintro w' ⟨s0, s1⟩
      go_simp
      with_reducible rfl
     rotate_left
     ·
      simp only [Act.put, sa0, sa1, sa2, i64_w, i32_w]
      rfl
     refine pure_ (i := 11) (N := some 41) (v := ?_) (a' := ?_) #[true, true, true, true, true, true, true, true, true, true, true, true, false, false, false] rfl rfl (any_of HT_.out (by kernel_rfl)) (fun _ _ _ h => h) (Or.inl ⟨by rfl, ?_⟩) ?_ ?_
     rotate_left
     ·
      intro w'
      go_simp
      with_reducible rfl
     rotate_left
     ·
      simp only [Act.put, sa0, sa1, sa2, i64_w, i32_w]
      rfl
     refine pure_ (i := 12) (N := some 42) (v := ?_) (a' := ?_) #[true, true, true, true, true, true, true, true, true, true, true, true, true, false, false] rfl rfl (any_of HT_.out (by kernel_rfl)) (fun _ _ _ h => h) (Or.inl ⟨by rfl, ?_⟩) ?_ ?_
     rotate_left
     ·
      intro w'
      go_simp
      with_reducible rfl
     rotate_left
     ·
      simp only [Act.put, sa0, sa1, sa2, i64_w, i32_w]
      rfl
     refine pure_ (i := 13) (N := some 43) (v := ?_) (a' := ?_) #[true, true, true, true, true, true, true, true, true, true, true, true, true, true, false] rfl rfl (any_of HT_.out (by kernel_rfl)) (fun _ _ _ h => h) (Or.inl ⟨by rfl, ?_⟩) ?_ ?_
     rotate_left
     ·
      intro w'
      go_simp
      with_reducible rfl
     rotate_left
     ·
      simp only [Act.put, sa0, sa1, sa2, i64_w, i32_w]
      rfl
     refine last_ (i := 14) (N := none) #[true, true, true, true, true, true, true, true, true, true, true, true, true, true, true] rfl rfl (one_of HT_.out (by kernel_rfl)) (by decide) (fun K hK => ?_)
     refine skip_ (w1 := ?_) (by rfl) rfl ?_ ?_
     rotate_left
     ·
      go_simp
      rfl
     refine hK.out _ _ ?_
     clear hK K
     refine done_ (done_of HT_.out (by kernel_rfl)) ?_
     try go_wp2
     go_roundg k1
     case measure => have := HK1.out; omega
     case rel => exact ⟨(y108), (ji15), (by first | rfl | (simp; done) | (simp only [← hji15] <;> (first | rfl | simp)) | (simp [*]; done)), H', ⟨by have := HK1.out; omega⟩, ⟨kr HQ24⟩, ⟨by repeat (first | (with_reducible first | exact HB.out | apply below_alloc | apply pw_below_drewN | apply below_drew1 | refine below_set ?_ GB13.out) | exact HB.out)⟩⟩
    ·
     rw [if_neg c14] at H
     have c14b0 : decide ((wrap64 (x13_1 + 1)) < (l0.length : Int)) = false := decide_eq_false c14
     clear c14
     have H' := Aside0.mk H
     clear H
     have p104 : 0 ≤ (x13_1 : Int) := of_decide_eq_true (by first | (with_reducible assumption) | assumption)
     have q104 : x13_1 < (l0.length : Int) := of_decide_eq_true (by first | (with_reducible assumption) | assumption)
     obtain ⟨ad104, e104, hx104_0⟩ := Kd.at_int HR0.out x13_1 p104 q104
     cases e104
     replace hx104_0 := (HB.out.cell (World.block_lt_of_cell? w _ hx104_0)).trans hx104_0
     replace p104 := eq_true p104
     replace q104 := eq_true q104
     have p13 : 0 ≤ (x13_1 : Int) := of_decide_eq_true (by first | (with_reducible assumption) | assumption)
     have q13 : (x13_1 : Int) < ((x5_1.length : Int) : Int) := of_decide_eq_true (by first | (with_reducible assumption) | assumption)
     obtain ⟨go13, co13, eo13, gb13, gl13, cl13, HG13⟩ := Kd.R_form HO_5.out (by omega)
     (first | cases eo13 | (injection eo13 with ea_ en_ ec_; (first | subst ea_ | (injection ea_ with ea_; subst ea_)); subst ec_; clear en_))
     have GB13 := Aside0.mk gb13
     have GG13 := Aside0.mk HG13
     clear gb13 gl13 HG13
     obtain ⟨hx13_0, hf13_0⟩ := Kd.R_celln 0 HO_5.out (x13_1 : Int) p13 q13
     replace p13 := eq_true p13
     replace q13 := eq_true q13
     have HP25 := Kd.R_putg HO_5.out (x13_1 : Int) ji11
     go_wp2_with (first | ((with_reducible refine gate_store (t := 56) (p := 24) rfl ?_); refine store_event (t := 56) (p := 24) (v := ?vo_w26) (w1 := (wr.setCell ⟨go13, (x13_1 : Int).toNat, none⟩ (.int .u32 ji11))) ?hg ?ho ?hn ?hr ?_; (case ho => rfl); (case hg => rfl); (case hn => rfl); (case hr => first | (go_simp; done) | (go_simp; rfl)); intro w26 hw; have hg : wr.grownBy w26 (some go13) := (by rw [hw]; exact HP25.2); have hp_ : Kd.R (Kd.int .u32) 56 w26 w.heap.size (fun k_ => (w.heap.size ≤ k_)) (.slice (some ⟨go13, 0, none⟩) x5_1.length co13) y105 := (by rw [hw, Ny105.out]; exact HP25.1); clear HP25; refine ax2 hp_ ((by rw [hw]; exact below_set (HB.out) GB13.out : Below w.heap.size w w26)) ?_; clear HO_5; clear HB; intro HO_5 HB; clear hg hw hp_))
     go_roundg k1
     case measure => have := HK1.out; omega
     case rel => exact ⟨(y105), (wrap64 (x13_1 + 1)), (by first | rfl | (simp; done) | (simp [*]; done)), H', ⟨by have := HK1.out; omega⟩, ⟨kr HO_5⟩, ⟨bel⟩⟩
   ·
    rw [if_neg c7] at H
    have c7b0 : decide (x13_1 < (l0.length : Int)) = false := decide_eq_false c7
    clear c7
    by_cases c27 : (x5_1.length : Int) > 0
    rotate_left
    ·
     rw [if_neg c27] at H
     have c27b0 : decide (0 < (x5_1.length : Int)) = false := decide_eq_false c27
     have c27b1 : decide (0 < x5_1.length) = false := decide_eq_false (by omega)
     clear c27
     obtain rfl := Option.some.inj H
     obtain ⟨Ao37, co37, eo37⟩ := Kd.R_slice HO_5.out
     subst eo37
     go_wp2
     go_ret
     exact ⟨_, er, Kd.R_V (kr HO_5), bel⟩
    rw [if_pos c27] at H
    have c27b0 : decide (0 < (x5_1.length : Int)) = true := decide_eq_true c27
    have c27b1 : decide (0 < x5_1.length) = true := decide_eq_true (by omega)
    clear c27
    obtain ⟨ji28, hji28⟩ : ∃ j_ : Int, (wrap64 ((x5_1.length : Int) - 1)) = j_ := ⟨_, rfl⟩
    replace H : (if 0 ≤ (ji28) then (if (ji28) < (x5_1.length : Int) then (if (rd x5_1 (ji28)) = 0 then (if (ji28) ≤ (x5_1.length : Int) then (some (x5_1.take ((ji28) : Int).toNat)) else (none)) else (some x5_1)) else (none)) else (none)) = some r := by first | (rw [hji28] at H; exact H) | (simp only [hji28] at H ⊢; exact H)
    have hji28w : (IntKind.i64.wrap ((x5_1.length : Int) - 1)) = ji28 := (i64_w _).trans hji28
    by_cases c29 : 0 ≤ (ji28)
    rotate_left
    ·
     rw [if_neg c29] at H
     exact absurd H (by simp)
    rw [if_pos c29] at H
    have c29b0 : decide (0 ≤ (ji28)) = true := decide_eq_true c29
    clear c29
    by_cases c30 : (ji28) < (x5_1.length : Int)
    rotate_left
    ·
     rw [if_neg c30] at H
     exact absurd H (by simp)
    rw [if_pos c30] at H
    have c30b0 : decide ((ji28) < (x5_1.length : Int)) = true := decide_eq_true c30
    clear c30
    by_cases c31 : (rd x5_1 (ji28)) = 0
    ·
     rw [if_pos c31] at H
     have c31b0 : ((rd x5_1 (ji28)) == 0) = true := beq_iff_eq.mpr c31
     have c31b1 : ((rd x5_1 (ji28)) != 0) = false := bne_eq_false_iff_eq.mpr c31
     clear c31
     have c32b0 := eq_true (of_decide_eq_true (by first | (with_reducible assumption) | assumption) : 0 ≤ (ji28))
     by_cases c33 : (ji28) ≤ (x5_1.length : Int)
     rotate_left
     ·
      rw [if_neg c33] at H
      exact absurd H (by simp)
     rw [if_pos c33] at H
     have c33b0 := eq_true c33
     have c33b1 : decide ((ji28) ≤ (x5_1.length : Int)) = true := decide_eq_true c33
     clear c33
     obtain ⟨y110, hy110⟩ : ∃ y_ : List Int, y_ = (x5_1.take ((ji28) : Int).toNat) := ⟨_, rfl⟩
     replace H : (some y110) = some r := by first | (rw [hy110]; with_reducible exact H) | (have H2_ := (Option.bind_some _ _).symm.trans H; rw [hy110]; with_reducible exact H2_) | (have H2_ := (Option.bind_some _ _).symm.trans H; with_reducible exact H2_) | with_reducible exact H | (rw [hy110]; exact H) | exact H
     have Ny110 := Aside0.mk hy110
     clear hy110
     obtain rfl := Option.some.inj H
     obtain ⟨Ao34, co34, eo34⟩ := Kd.R_slice HO_5.out
     subst eo34
     have p109 : 0 ≤ ((ji28) : Int) := of_decide_eq_true (by first | (with_reducible assumption) | assumption)
     have q109 : (ji28) < (x5_1.length : Int) := of_decide_eq_true (by first | (with_reducible assumption) | assumption)
     obtain ⟨ad109, e109, hx109_0⟩ := Kd.at_int (Kd.R_reads' HO_5.out).2.2 (ji28) p109 q109
     cases e109
     replace p109 := eq_true p109
     replace q109 := eq_true q109
     have q35 : ((ji28) : Int) ≤ ((x5_1.length : Int) : Int) := of_decide_eq_true (by first | (with_reducible assumption) | assumption)
     obtain ⟨i035, hi035, _, hsz35, _⟩ := info_parts info56
     have hroom35 : x5_1.length ≤ co34 := (Kd.R_reads' HO_5.out).2.1
     have hC35 : Kd.F (Kd.int .u32) _ _ (some ad109) x5_1.length x5_1 := (Kd.V_at (base := w.heap.size) (Kd.R_V HO_5.out)).2.2
     have hcut35 := cut_to3 (P := Tryd.prog) 24 56 .i64 Tryd.underlying24 hi035 (some ad109) x5_1.length co34 (ji28) (of_decide_eq_true (by first | (with_reducible assumption) | assumption)) q35 hroom35
     have hr35 := Kd.F_take (m := ((ji28) : Int).toNat) hC35 (by omega)
     have hy35 : y110.length = ((ji28) : Int).toNat := (by rw [Ny110.out, List.length_take]; omega)
     rw [← Ny110.out] at hr35
     rw [← hy35] at hcut35
     have HO114 := Aside0.mk (show Kd.V (Kd.int .u32) 56 _ w.heap.size _ (.slice (some ad109) y110.length y110.length) y110 from Kd.V_mk (by omega) hr35)
     have HC114 := Aside0.mk (show y110.length ≤ y110.length from by omega)
     clear hr35 hC35 hroom35 hi035 hsz35
     have KY35 := Aside0.mk hy35
     clear hy35
     replace q35 := eq_true q35
     go_wp2
     go_ret
     exact ⟨_, by first | rfl | (simp [errW_none, errW_some] <;> rfl) | (simp only [← hji28]; first | rfl | (simp [errW_none, errW_some] <;> rfl)) | (simp [*, errW_none, errW_some] <;> rfl), kv HO114, bel⟩
    ·
     rw [if_neg c31] at H
     have c31b0 : ((rd x5_1 (ji28)) == 0) = false := beq_eq_false_iff_ne.mpr c31
     have c31b1 : ((rd x5_1 (ji28)) != 0) = true := bne_iff_ne.mpr c31
     obtain rfl := Option.some.inj H
     obtain ⟨Ao36, co36, eo36⟩ := Kd.R_slice HO_5.out
     subst eo36
     have p109 : 0 ≤ ((ji28) : Int) := of_decide_eq_true (by first | (with_reducible assumption) | assumption)
     have q109 : (ji28) < (x5_1.length : Int) := of_decide_eq_true (by first | (with_reducible assumption) | assumption)
     obtain ⟨ad109, e109, hx109_0⟩ := Kd.at_int (Kd.R_reads' HO_5.out).2.2 (ji28) p109 q109
     cases e109
     replace p109 := eq_true p109
     replace q109 := eq_true q109
     go_wp2
     go_ret
     exact ⟨_, by first | rfl | (simp [errW_none, errW_some] <;> rfl) | (simp only [← hji28]; first | rfl | (simp [errW_none, errW_some] <;> rfl)) | (simp [*, errW_none, errW_some] <;> rfl), Kd.R_V (kr HO_5), bel⟩
/-! ### dyad_trim: function 33 -/
mutual
def dyad_trim.j1 : Nat → Bool → List Int → Int → Int → Option (Bool × List Int × Int)
 | 0, _, _, _, _ => none
 | k + 1, x0, x1, x2, x7 => if 0 ≤ x7 then (if x7 ≤ (x1.length : Int) then (if x7 = 0 then (some (false, ([] : List Int), 0)) else (dyad_trim.l1 k x0 (x1.take (x7 : Int).toNat) x2 0)) else (none)) else (none)
def dyad_trim.l1 : Nat → Bool → List Int → Int → Int → Option (Bool × List Int × Int)
 | 0, _, _, _, _ => none
 | k + 1, x0, x1, x2, x8 => if 0 ≤ x8 then (if x8 < (x1.length : Int) then (if (rd x1 x8) = 0 then (dyad_trim.l1 k x0 x1 x2 (wrap64 (x8 + 1))) else (if x8 ≤ (x1.length : Int) then ((some (x1.drop (x8 : Int).toNat : List Int)).bind fun y123 => (if 0 < (y123.length : Int) then ((bits_TrailingZeros32.f (rd y123 0)).bind fun t129 => (if t129 > 0 then ((dyad_down.f k y123 t129).bind fun t130 => (some (x0, t130, wrap64 ((wrap64 (x2 + (wrap64 (32 * x8)))) + t129)))) else (some (x0, y123, wrap64 (x2 + (wrap64 (32 * x8))))))) else (none))) else (none))) else (none)) else (none)
def dyad_trim.l0 : Nat → Bool → List Int → Int → Int → Option (Bool × List Int × Int)
 | 0, _, _, _, _ => none
 | k + 1, x0, x1, x2, x7 => if x7 > 0 then (if 0 ≤ (wrap64 (x7 - 1)) then (if (wrap64 (x7 - 1)) < (x1.length : Int) then (if (rd x1 (wrap64 (x7 - 1))) = 0 then (dyad_trim.l0 k x0 x1 x2 (wrap64 (x7 - 1))) else (dyad_trim.j1 k x0 x1 x2 x7)) else (none)) else (none)) else (dyad_trim.j1 k x0 x1 x2 x7)
end
def dyad_trim.f (k : Nat) (a0 : Bool) (l1 : List Int) (a2 : Int) : Option (Bool × List Int × Int) := dyad_trim.l0 k a0 l1 a2 (l1.length : Int)
theorem dyad_trim.mono_l : ∀ k, (∀ y0 y1 y2 y3, LeO (dyad_trim.j1 k y0 y1 y2 y3) (dyad_trim.j1 (k + 1) y0 y1 y2 y3)) ∧ (∀ y0 y1 y2 y3, LeO (dyad_trim.l1 k y0 y1 y2 y3) (dyad_trim.l1 (k + 1) y0 y1 y2 y3)) ∧ (∀ y0 y1 y2 y3, LeO (dyad_trim.l0 k y0 y1 y2 y3) (dyad_trim.l0 (k + 1) y0 y1 y2 y3))
 | 0 => ⟨fun _ _ _ _ r h => by simp [dyad_trim.j1] at h, fun _ _ _ _ r h => by simp [dyad_trim.l1] at h, fun _ _ _ _ r h => by simp [dyad_trim.l0] at h⟩
 | k + 1 => by
  obtain ⟨ih0, ih1, ih2⟩ := dyad_trim.mono_l k
  refine ⟨?_, ?_, ?_⟩ <;> intros <;> (first | unfold dyad_trim.j1 | unfold dyad_trim.l1 | unfold dyad_trim.l0) <;>
   repeat' with_reducible first | apply ih0 | apply ih1 | apply ih2 | apply dyad_down.mono | exact LeO.refl _ | exact LeO.none _ | refine LeO.ite ?_ ?_ | refine LeO.bind ?_ (fun _ => ?_)
theorem dyad_trim.mono : ∀ a0 a1 a2 k, LeO (dyad_trim.f k a0 a1 a2) (dyad_trim.f (k + 1) a0 a1 a2) := by
 intro a0 a1 a2 k
 obtain ⟨ih0, ih1, ih2⟩ := dyad_trim.mono_l k
 unfold dyad_trim.f
 repeat' with_reducible first | apply ih0 | apply ih1 | apply ih2 | apply dyad_down.mono | exact LeO.refl _ | exact LeO.none _ | refine LeO.ite ?_ ?_ | refine LeO.bind ?_ (fun _ => ?_)
set_option maxHeartbeats 8000000 in
set_option maxRecDepth 100000 in
theorem dyad_trim.calls (k : Nat) (a0 : Bool) (P1_ : Nat → Prop) (A1 : Option Addr) (c1 : Nat) (l1 : List Int) (a2 : Int) (r1 : Bool) (r2 : List Int) (r3 : Int) (w : World) (hs1 : Kd.V (Kd.int .u32) 56 w w.heap.size (fun k_ => P1_ k_) (.slice A1 l1.length c1) l1) (hT : TabW w) (h : dyad_trim.f k a0 l1 a2 = some (r1, r2, r3)) :
  Calls Tryd.prog 33 #[.bool a0, .slice A1 l1.length c1, .int .i64 a2] w fun e w' => ∃ v1_ : Value, e = .returned (.agg #[.bool r1, v1_, .int .i64 r3]) ∧ Kd.V (Kd.int .u32) 56 w' w.heap.size (fun k_ => (P1_ k_ ∨ w.heap.size ≤ k_)) v1_ r2 ∧ Below w.heap.size w w' := by
 have hu26 := Tryd.underlying26
 have HO1 := Aside0.mk (show Kd.V (Kd.int .u32) 56 w w.heap.size (fun k_ => (P1_ k_ ∨ w.heap.size ≤ k_)) (.slice A1 l1.length c1) l1 from Kd.V_mono hs1 (fun k_ hk => .inl hk))
 have HB := Aside0.mk (Below.refl w.heap.size w)
 have H : (dyad_trim.l0 k a0 l1 a2 (l1.length : Int)) = some (r1, r2, r3) := h
 clear h
 have HC4 := Aside0.mk H
 clear H
 go_enter Tryd.func33, Tryd.ntmps33
 go_upto_block 0 with (first | ((with_reducible refine gate_dst (N := 6) rfl ?_); refine gbox (N := 6) (cs := #[.bool false, .slice none 0 0, .int .i64 0]) (t := 26) ?_; intro gb115 hg w5 hbox hb; refine ax5 (Kd.V_below (Kd.V_elderB (kv HO1) gb115 (Nat.le_of_eq hg.symm)) hb) (below_step bel hb) hbox ((ge hg : w.heap.size ≤ gb115)) ((ge hg : w.heap.size ≤ gb115)) ?_; clear HO1; clear HB; intro HO1 HB BK115 GW115 GE115; clear hb hbox hg))
 (try simp only [Act.put, sa0, sa1, sa2])
 go_cut [7] (fun v7 wc => ∃ (kq : Nat) (x7_3 : Int), v7 = .int .i64 x7_3 ∧ Aside0 (dyad_trim.j1 kq a0 l1 a2 x7_3 = some (r1, r2, r3)) ∧ Aside0 (kq ≤ k) ∧ Aside0 (Kd.V (Kd.int .u32) 56 wc w.heap.size (fun k_ => (P1_ k_ ∨ w.heap.size ≤ k_) ∧ k_ ≠ gb115) (.slice A1 l1.length c1) l1) ∧ Aside0 (wc.heap[gb115]? = some (.cells #[.bool false, (.slice none 0 0), .int .i64 0] 26 (0, 0))) ∧ Aside0 (Below w.heap.size w wc))
 case first =>
  have H := HC4.out
  clear HC4
  have H' := Aside0.mk H
  clear H
  go_wp2
  go_loopg [7] k (fun kq v7 w' => ∃ (x7_1 : Int), v7 = .int .i64 x7_1 ∧ Aside0 (dyad_trim.l0 kq a0 l1 a2 x7_1 = some (r1, r2, r3)) ∧ Aside0 (kq ≤ k) ∧ Aside0 (Kd.V (Kd.int .u32) 56 w' w.heap.size (fun k_ => (P1_ k_ ∨ w.heap.size ≤ k_) ∧ k_ ≠ gb115) (.slice A1 l1.length c1) l1) ∧ Aside0 (w'.heap[gb115]? = some (.cells #[.bool false, (.slice none 0 0), .int .i64 0] 26 (0, 0))) ∧ Aside0 (Below w.heap.size w w'))
  case atStart => exact ⟨((l1.length : Int)), (by first | rfl | (simp; done) | (simp [*]; done)), H', ⟨Nat.le_refl _⟩, ⟨kv HO1⟩, ⟨kb BK115⟩, ⟨bes⟩⟩
  case round =>
   clear H'
   try clear c1
   try clear p2
   try clear c3
   obtain ⟨x7_1, rfl, HA, HK1, HO_1, BK115, HB⟩ := hrel
   cases gk with
   | zero => exact absurd HA.out (by simp [dyad_trim.l0])
   | succ k1 =>
    have H := HA.out
    clear HA
    simp only [dyad_trim.l0] at H
    by_cases c6 : x7_1 > 0
    rotate_left
    ·
     rw [if_neg c6] at H
     have c6b0 : decide (0 < x7_1) = false := decide_eq_false c6
     clear c6
     (first | rw [c6b0] | (simp only [i64_w, i32_w]; rw [c6b0]) | skip)
     have H' := Aside0.mk H
     clear H
     go_wp2
     go_meet
     case rel => exact ⟨_, (x7_1), (by first | rfl | (simp; done) | (simp [*]; done)), H', ⟨by have := HK1.out; first | omega | exact Nat.le_refl _⟩, ⟨kv HO_1⟩, ⟨kb BK115⟩, ⟨bes⟩⟩
    rw [if_pos c6] at H
    have c6b0 : decide (0 < x7_1) = true := decide_eq_true c6
    clear c6
    (first | rw [c6b0] | (simp only [i64_w, i32_w]; rw [c6b0]) | skip)
    obtain ⟨ji7, hji7⟩ : ∃ j_ : Int, (wrap64 (x7_1 - 1)) = j_ := ⟨_, rfl⟩
    replace H : (if 0 ≤ (ji7) then (if (ji7) < (l1.length : Int) then (if (rd l1 (ji7)) = 0 then (dyad_trim.l0 k1 a0 l1 a2 ji7) else (dyad_trim.j1 k1 a0 l1 a2 x7_1)) else (none)) else (none)) = some (r1, r2, r3) := by first | (rw [hji7] at H; exact H) | (simp only [hji7] at H ⊢; exact H)
    have hji7w : (IntKind.i64.wrap (x7_1 - 1)) = ji7 := (i64_w _).trans hji7
    by_cases c8 : 0 ≤ (ji7)
    rotate_left
    ·
     rw [if_neg c8] at H
     exact absurd H (by simp)
    rw [if_pos c8] at H
    have c8b0 : decide (0 ≤ (ji7)) = true := decide_eq_true c8
    clear c8
    by_cases c9 : (ji7) < (l1.length : Int)
    rotate_left
    ·
     rw [if_neg c9] at H
     exact absurd H (by simp)
    rw [if_pos c9] at H
    have c9b0 : decide ((ji7) < (l1.length : Int)) = true := decide_eq_true c9
    clear c9
    by_cases c10 : (rd l1 (ji7)) = 0
    ·
     rw [if_pos c10] at H
     have c10b0 : ((rd l1 (ji7)) == 0) = true := beq_iff_eq.mpr c10
     have c10b1 : ((rd l1 (ji7)) != 0) = false := bne_eq_false_iff_eq.mpr c10
     clear c10
     have H' := Aside0.mk H
     clear H
     have p116 : 0 ≤ ((ji7) : Int) := of_decide_eq_true (by first | (with_reducible assumption) | assumption)
     have q116 : (ji7) < (l1.length : Int) := of_decide_eq_true (by first | (with_reducible assumption) | assumption)
     obtain ⟨ad116, e116, hx116_0⟩ := Kd.at_int (Kd.V_reads' HO_1.out).2.2 (ji7) p116 q116
     cases e116
     replace p116 := eq_true p116
     replace q116 := eq_true q116
     go_wp2
     go_roundg k1
     case measure => have := HK1.out; omega
     case rel => exact ⟨(ji7), (by first | rfl | (simp; done) | (simp only [← hji7] <;> (first | rfl | simp)) | (simp [*]; done)), H', ⟨by have := HK1.out; omega⟩, ⟨kv HO_1⟩, ⟨kb BK115⟩, ⟨bes⟩⟩
    ·
     rw [if_neg c10] at H
     have c10b0 : ((rd l1 (ji7)) == 0) = false := beq_eq_false_iff_ne.mpr c10
     have c10b1 : ((rd l1 (ji7)) != 0) = true := bne_iff_ne.mpr c10
     have H' := Aside0.mk H
     clear H
     have p116 : 0 ≤ ((ji7) : Int) := of_decide_eq_true (by first | (with_reducible assumption) | assumption)
     have q116 : (ji7) < (l1.length : Int) := of_decide_eq_true (by first | (with_reducible assumption) | assumption)
     obtain ⟨ad116, e116, hx116_0⟩ := Kd.at_int (Kd.V_reads' HO_1.out).2.2 (ji7) p116 q116
     cases e116
     replace p116 := eq_true p116
     replace q116 := eq_true q116
     go_wp2
     go_meet
     case rel => exact ⟨_, (x7_1), (by first | rfl | (simp; done) | (simp [*]; done)), H', ⟨by have := HK1.out; first | omega | exact Nat.le_refl _⟩, ⟨kv HO_1⟩, ⟨kb BK115⟩, ⟨bes⟩⟩
 case rest =>
  clear HC4
  try clear c1
  try clear p1
  try clear q1
  try clear hx1
  try clear p2
  try clear c3
  try clear c6
  try clear c6b0
  try clear p6
  try clear c8
  try clear c8b0
  try clear c9
  try clear c9b0
  try clear c10
  try clear c10b0
  try clear c10b1
  try clear hx116_0
  try clear p116
  try clear p2
  try clear q116
  obtain ⟨kq, x7_3, rfl, HA, HJ3, HO_1, BK115, HB⟩ := hcut
  cases kq with
  | zero => exact absurd HA.out (by simp [dyad_trim.j1])
  | succ kj3 =>
   have H := HA.out
   clear HA
   simp only [dyad_trim.j1] at H
   by_cases c11 : 0 ≤ x7_3
   rotate_left
   ·
    rw [if_neg c11] at H
    exact absurd H (by simp)

   rw [if_pos c11] at H
   have c11b0 := eq_true c11
   have c11b1 : decide (0 ≤ x7_3) = true := decide_eq_true c11
   clear c11
   by_cases c12 : x7_3 ≤ (l1.length : Int)
   rotate_left
   ·
    rw [if_neg c12] at H
    exact absurd H (by simp)
   rw [if_pos c12] at H
   have c12b0 := eq_true c12
   have c12b1 : decide (x7_3 ≤ (l1.length : Int)) = true := decide_eq_true c12
   clear c12
   obtain ⟨y117, hy117⟩ : ∃ y_ : List Int, y_ = (l1.take (x7_3 : Int).toNat) := ⟨_, rfl⟩
   replace H : (if x7_3 = 0 then (some (false, ([] : List Int), 0)) else (dyad_trim.l1 kj3 a0 y117 a2 0)) = some (r1, r2, r3) := by first | (rw [hy117]; with_reducible exact H) | (have H2_ := (Option.bind_some _ _).symm.trans H; rw [hy117]; with_reducible exact H2_) | (have H2_ := (Option.bind_some _ _).symm.trans H; with_reducible exact H2_) | with_reducible exact H | (rw [hy117]; exact H) | exact H
   have Ny117 := Aside0.mk hy117
   clear hy117
   by_cases c13 : x7_3 = 0
   ·
    rw [if_pos c13] at H
    have c13b0 : (x7_3 == 0) = true := beq_iff_eq.mpr c13
    have c13b1 : (x7_3 != 0) = false := bne_eq_false_iff_eq.mpr c13
    clear c13
    simp only [Option.some.injEq, Prod.mk.injEq] at H
    obtain ⟨rfl, rfl, rfl⟩ := H
    have q14 : (x7_3 : Int) ≤ ((l1.length : Int) : Int) := of_decide_eq_true (by first | (with_reducible assumption) | assumption)
    obtain ⟨i014, hi014, _, hsz14, _⟩ := info_parts info56
    have hroom14 : l1.length ≤ c1 := (Kd.V_reads' HO_1.out).2.1
    have hC14 : Kd.F (Kd.int .u32) _ _ A1 l1.length l1 := (Kd.V_at (base := w.heap.size) HO_1.out).2.2
    have hcut14 := cut_to (P := Tryd.prog) 24 56 .i64 Tryd.underlying24 hi014 A1 l1.length c1 x7_3 (of_decide_eq_true (by first | (with_reducible assumption) | assumption)) q14 hroom14
    have hr14 := Kd.F_take (m := (x7_3 : Int).toNat) hC14 (by omega)
    have hy14 : y117.length = (x7_3 : Int).toNat := (by rw [Ny117.out, List.length_take]; omega)
    rw [← Ny117.out] at hr14
    rw [← hy14] at hcut14
    have HO121 := Aside0.mk (show Kd.V (Kd.int .u32) 56 _ w.heap.size _ (.slice A1 y117.length c1) y117 from Kd.V_mk (by omega) hr14)
    have HC121 := Aside0.mk (show y117.length ≤ c1 from by omega)
    clear hr14 hC14 hroom14 hi014 hsz14
    have KY14 := Aside0.mk hy14
    clear hy14
    replace q14 := eq_true q14
    have hcz15_0 := bc BK115 0 rfl
    have hcz15_1 := bc BK115 1 rfl
    have hcz15_2 := bc BK115 2 rfl
    have hfz15_0 := blk_frozen BK115.out 0
    have hfz15_1 := blk_frozen BK115.out 1
    have hfz15_2 := blk_frozen BK115.out 2
    go_wp2
    refine bodyPost_ret (results_cell_row rfl _ _ gb115 26 #[.bool false, .slice none 0 0, .int .i64 0] (0, 0) _ rfl (by (with_reducible repeat (first | refine blk_drewN ?_ _ | refine blk_drew ?_ | refine blk_alloc ?_ _)); refine blk_put (cs := #[.bool false, .slice none 0 0, .int .i64 0]) ?_ 2 _ rfl; (with_reducible repeat (first | refine blk_drewN ?_ _ | refine blk_drew ?_ | refine blk_alloc ?_ _)); refine blk_put (cs := #[.bool false, .slice none 0 0, .int .i64 0]) ?_ 1 _ rfl; (with_reducible repeat (first | refine blk_drewN ?_ _ | refine blk_drew ?_ | refine blk_alloc ?_ _)); refine blk_put (cs := #[.bool false, .slice none 0 0, .int .i64 0]) ?_ 0 _ rfl; (with_reducible repeat (first | refine blk_drewN ?_ _ | refine blk_drew ?_ | refine blk_alloc ?_ _)); exact BK115.out) Tryd.underlying26 rfl (by kernel_rfl)) rfl ?_
    exact ⟨_, er, Kd.V_nil _ _ _ _ _, bes⟩
   ·
    rw [if_neg c13] at H
    have c13b0 : (x7_3 == 0) = false := beq_eq_false_iff_ne.mpr c13
    have c13b1 : (x7_3 != 0) = true := bne_iff_ne.mpr c13
    have H' := Aside0.mk H
    clear H
    have q16 : (x7_3 : Int) ≤ ((l1.length : Int) : Int) := of_decide_eq_true (by first | (with_reducible assumption) | assumption)
    obtain ⟨i016, hi016, _, hsz16, _⟩ := info_parts info56
    have hroom16 : l1.length ≤ c1 := (Kd.V_reads' HO_1.out).2.1
    have hC16 : Kd.F (Kd.int .u32) _ _ A1 l1.length l1 := (Kd.V_at (base := w.heap.size) HO_1.out).2.2
    have hcut16 := cut_to (P := Tryd.prog) 24 56 .i64 Tryd.underlying24 hi016 A1 l1.length c1 x7_3 (of_decide_eq_true (by first | (with_reducible assumption) | assumption)) q16 hroom16
    have hr16 := Kd.F_take (m := (x7_3 : Int).toNat) hC16 (by omega)
    have hy16 : y117.length = (x7_3 : Int).toNat := (by rw [Ny117.out, List.length_take]; omega)
    rw [← Ny117.out] at hr16
    rw [← hy16] at hcut16
    have HO121 := Aside0.mk (show Kd.V (Kd.int .u32) 56 _ w.heap.size _ (.slice A1 y117.length c1) y117 from Kd.V_mk (by omega) hr16)
    have HC121 := Aside0.mk (show y117.length ≤ c1 from by omega)
    clear hr16 hC16 hroom16 hi016 hsz16
    have KY16 := Aside0.mk hy16
    clear hy16
    replace q16 := eq_true q16
    go_wp2
    go_loopg [8] kj3 (fun kq v8 w' => ∃ (x8_2 : Int), v8 = .int .i64 x8_2 ∧ Aside0 (dyad_trim.l1 kq a0 y117 a2 x8_2 = some (r1, r2, r3)) ∧ Aside0 (kq ≤ kj3) ∧ Aside0 (Kd.V (Kd.int .u32) 56 w' w.heap.size (fun k_ => (P1_ k_ ∨ w.heap.size ≤ k_) ∧ k_ ≠ gb115) (.slice A1 y117.length c1) y117) ∧ Aside0 (w'.heap[gb115]? = some (.cells #[.bool false, (.slice none 0 0), .int .i64 0] 26 (0, 0))) ∧ Aside0 (Below w.heap.size w w'))
    case atStart => exact ⟨(0), (by first | rfl | (simp; done) | (simp [*]; done)), H', ⟨Nat.le_refl _⟩, ⟨kv HO121⟩, ⟨kb BK115⟩, ⟨bes⟩⟩
    case round =>
     clear H'
     try clear c1
     try clear p1
     try clear q1
     try clear hx1
     try clear p2
     try clear c3
     try clear c6
     try clear c6b0
     try clear p6
     try clear c8
     try clear c8b0
     try clear c9
     try clear c9b0
     try clear c10
     try clear c10b0
     try clear c10b1
     try clear c11
     try clear c11b0
     try clear c11b1
     try clear p11
     try clear q11
     try clear hx11
     try clear c12
     try clear c12b0
     try clear c12b1
     try clear c13
     try clear c13b0
     try clear c13b1
     try clear q14
     try clear q16
     try clear hcz15_0
     try clear hcz15_1
     try clear hcz15_2
     try clear hfz15_0
     try clear hfz15_1
     try clear hfz15_2
     try clear hx116_0
     try clear p1
     try clear p116
     try clear p2
     try clear p6
     try clear q1
     try clear q116
     try clear q14
     try clear q16
     obtain ⟨x8_2, rfl, HA, HK2, HO_1, BK115, HB⟩ := hrel
     cases gk with
     | zero => exact absurd HA.out (by simp [dyad_trim.l1])
     | succ k2 =>
      have H := HA.out
      clear HA
      simp only [dyad_trim.l1] at H
      by_cases c17 : 0 ≤ x8_2
      rotate_left
      ·
       rw [if_neg c17] at H
       exact absurd H (by simp)
      rw [if_pos c17] at H
      have c17b0 : decide (0 ≤ x8_2) = true := decide_eq_true c17
      clear c17
      by_cases c18 : x8_2 < (y117.length : Int)
      rotate_left
      ·
       rw [if_neg c18] at H
       exact absurd H (by simp)
      rw [if_pos c18] at H
      have c18b0 : decide (x8_2 < (y117.length : Int)) = true := decide_eq_true c18
      clear c18
      by_cases c19 : (rd y117 x8_2) = 0
      ·
       rw [if_pos c19] at H
       have c19b0 : ((rd y117 x8_2) == 0) = true := beq_iff_eq.mpr c19
       have c19b1 : ((rd y117 x8_2) != 0) = false := bne_eq_false_iff_eq.mpr c19
       clear c19
       have H' := Aside0.mk H
       clear H
       have p122 : 0 ≤ (x8_2 : Int) := of_decide_eq_true (by first | (with_reducible assumption) | assumption)
       have q122 : x8_2 < (y117.length : Int) := of_decide_eq_true (by first | (with_reducible assumption) | assumption)
       obtain ⟨ad122, e122, hx122_0⟩ := Kd.at_int (Kd.V_reads' HO_1.out).2.2 x8_2 p122 q122
       cases e122
       replace p122 := eq_true p122
       replace q122 := eq_true q122
       go_wp2
       go_roundg k2
       case measure => have := HJ3.out; have := HK2.out; omega
       case rel => exact ⟨(wrap64 (x8_2 + 1)), (by first | rfl | (simp; done) | (simp [*]; done)), H', ⟨by have := HJ3.out; have := HK2.out; omega⟩, ⟨kv HO_1⟩, ⟨kb BK115⟩, ⟨bes⟩⟩
      ·
       rw [if_neg c19] at H
       have c19b0 : ((rd y117 x8_2) == 0) = false := beq_eq_false_iff_ne.mpr c19
       have c19b1 : ((rd y117 x8_2) != 0) = true := bne_iff_ne.mpr c19
       have c20b0 := eq_true (of_decide_eq_true (by first | (with_reducible assumption) | assumption) : 0 ≤ x8_2)
       by_cases c21 : x8_2 ≤ (y117.length : Int)
       rotate_left
       ·
        rw [if_neg c21] at H
        exact absurd H (by simp)
       rw [if_pos c21] at H
       have c21b0 := eq_true c21
       have c21b1 : decide (x8_2 ≤ (y117.length : Int)) = true := decide_eq_true c21
       clear c21
       obtain ⟨y123, hy123⟩ : ∃ y_ : List Int, y_ = (y117.drop (x8_2 : Int).toNat) := ⟨_, rfl⟩
       replace H : (if 0 < (y123.length : Int) then ((bits_TrailingZeros32.f (rd y123 0)).bind fun t129 => (if t129 > 0 then ((dyad_down.f k2 y123 t129).bind fun t130 => (some (a0, t130, wrap64 ((wrap64 (a2 + (wrap64 (32 * x8_2)))) + t129)))) else (some (a0, y123, wrap64 (a2 + (wrap64 (32 * x8_2))))))) else (none)) = some (r1, r2, r3) := by first | (rw [hy123]; with_reducible exact H) | (have H2_ := (Option.bind_some _ _).symm.trans H; rw [hy123]; with_reducible exact H2_) | (have H2_ := (Option.bind_some _ _).symm.trans H; with_reducible exact H2_) | with_reducible exact H | (rw [hy123]; exact H) | exact H
       have Ny123 := Aside0.mk hy123
       clear hy123
       by_cases c22 : 0 < (y123.length : Int)
       rotate_left
       ·
        rw [if_neg c22] at H
        exact absurd H (by simp)
       rw [if_pos c22] at H
       have c22b0 : decide (0 < (y123.length : Int)) = true := decide_eq_true c22
       have c22b1 : decide (0 < y123.length) = true := decide_eq_true (by omega)
       clear c22
       obtain ⟨t129, A230, H⟩ := Option.bind_eq_some_iff.mp H
       (try dsimp -simprocs only at H)
       have A23 := Aside0.mk A230
       clear A230
       by_cases c24 : t129 > 0
       ·
        rw [if_pos c24] at H
        have c24b0 : decide (0 < t129) = true := decide_eq_true c24
        clear c24
        obtain ⟨t130, A250, H⟩ := Option.bind_eq_some_iff.mp H
        (try dsimp -simprocs only at H)
        have A25 := Aside0.mk A250
        clear A250
        simp only [Option.some.injEq, Prod.mk.injEq] at H
        obtain ⟨rfl, rfl, rfl⟩ := H
        have p122 : 0 ≤ (x8_2 : Int) := of_decide_eq_true (by first | (with_reducible assumption) | assumption)
        have q122 : x8_2 < (y117.length : Int) := of_decide_eq_true (by first | (with_reducible assumption) | assumption)
        obtain ⟨ad122, e122, hx122_0⟩ := Kd.at_int (Kd.V_reads' HO_1.out).2.2 x8_2 p122 q122
        cases e122
        replace p122 := eq_true p122
        replace q122 := eq_true q122
        have q26 : (x8_2 : Int) ≤ ((y117.length : Int) : Int) := of_decide_eq_true (by first | (with_reducible assumption) | assumption)
        obtain ⟨i026, hi026, _, hsz26, _⟩ := info_parts info56
        have hroom26 : y117.length ≤ c1 := (Kd.V_reads' HO_1.out).2.1
        have hC26 : Kd.F (Kd.int .u32) _ _ (some ad122) y117.length y117 := (Kd.V_at (base := w.heap.size) HO_1.out).2.2
        have q026 : (0 : Int) ≤ (x8_2 : Int) := of_decide_eq_true (by first | (with_reducible assumption) | assumption)
        have hcut26 := cut_from (P := Tryd.prog) 24 56 .i64 Tryd.underlying24 hi026 1 hsz26 (some ad122) y117.length c1 x8_2 q026 q26
        have hr26 := Kd.F_cut (m := (x8_2 : Int).toNat) (c := c1) hC26 (by omega) hroom26
        obtain ⟨A26, hA26⟩ : ∃ Az_, Az_ = (if c1 = (x8_2 : Int).toNat then (some ad122) else ((some ad122) : Option Addr).map (·.add ((x8_2 : Int).toNat * 1))) := ⟨_, rfl⟩
        obtain ⟨c26, hc26⟩ : ∃ cz_, cz_ = c1 - (x8_2 : Int).toNat := ⟨_, rfl⟩
        have hy26 : y123.length = y117.length - (x8_2 : Int).toNat := (by rw [Ny123.out, List.length_drop] <;> omega)
        rw [show (y117).drop (x8_2 : Int).toNat = y123 from Ny123.out.symm] at hr26
        replace hr26 : Kd.F (Kd.int .u32) _ _ A26 y123.length y123 := (by rw [hA26]; exact hr26)
        rw [← hy26, ← hA26, ← hc26] at hcut26
        have HO127 := Aside0.mk (show Kd.V (Kd.int .u32) 56 _ w.heap.size _ (.slice A26 y123.length c26) y123 from Kd.V_mk (by rw [hy26, hc26]; exact Nat.sub_le_sub_right hroom26 _) hr26)
        have HC127 := Aside0.mk (show y123.length ≤ c26 from by rw [hy26, hc26]; exact Nat.sub_le_sub_right hroom26 _)
        clear hr26 hC26 hroom26 hi026 hsz26 hc26
        have KY26 := Aside0.mk hy26
        have KA26 := Aside0.mk hA26
        clear hy26 hA26
        replace q26 := eq_true q26
        have p128 : 0 ≤ (0 : Int) := (by omega)
        have q128 : 0 < (y123.length : Int) := of_decide_eq_true (by first | (with_reducible assumption) | assumption)
        obtain ⟨ad128, e128, hx128_0⟩ := Kd.at_int (Kd.V_reads' HO127.out).2.2 0 p128 q128
        cases e128
        have qi128 : (0 < y123.length) = True := eq_true (by omega)
        (try rw [show ((0 : Int)).toNat = 0 from rfl] at hx128_0)
        (try rw [Addr.add_zero'] at hx128_0)
        replace p128 := eq_true p128
        replace q128 := eq_true q128
        go_wp2_with (first | ((with_reducible refine gate_callee (f := 57) rfl ?_); refine goesL_ (some 47) rfl rfl Tryd.func57 (by kernel_rfl) rfl #[.int .u32 (rd y123 0)] rfl ga ?_; (with_reducible refine (bits_TrailingZeros32.calls (rd y123 0) t129 _ ?side1 A23.out).mono ?_); (case side1 => first | exact hT | exact TabW.drewN hT _ | exact TabW.drew hT | exact TabW.below hT bes); rintro e w' ⟨rfl, ⟨nd, rfl⟩⟩; refine ⟨_, rfl, ?_⟩; (try (rw [drewN_self wr]; generalize hq_ : World.drewN wr _ = wr; have n0_ : Aside0 (Kd.V (Kd.int .u32) 56 wr w.heap.size (fun k_ => (P1_ k_ ∨ w.heap.size ≤ k_) ∧ k_ ≠ gb115) (.slice (some ad128) y123.length c26) y123) := ⟨by rw [← hq_]; exact (kv HO127)⟩; have n1_ : Aside0 (Kd.V (Kd.int .u32) 56 wr w.heap.size (fun k_ => (P1_ k_ ∨ w.heap.size ≤ k_) ∧ k_ ≠ gb115) (.slice (some ad122) y117.length c1) y117) := ⟨by rw [← hq_]; exact (kv HO_1)⟩; have n2_ : Aside0 (wr.heap[gb115]? = some (.cells #[.bool false, .slice none 0 0, .int .i64 0] 26 (0, 0))) := ⟨by rw [← hq_]; exact (kb BK115)⟩; have n3_ : Aside0 (Below w.heap.size w wr) := ⟨by rw [← hq_]; exact bes⟩; clear HO127 HO_1 BK115 HB hq_; have HO127 := n0_; have HO_1 := n1_; have BK115 := n2_; have HB := n3_; clear n0_ n1_ n2_ n3_))) | ((with_reducible refine gate_callee (f := 58) rfl ?_); refine goesL_ (some 52) rfl rfl Tryd.func58 (by kernel_rfl) rfl #[.slice (some ad128) y123.length c26, .int .i64 t129] rfl ga ?_; (with_reducible refine (dyad_down.calls k2 _ _ y123 t129 t130 _ ?side1 ?side2 A25.out).mono ?_); (case side1 => exact kvs HO127); (case side2 => exact (Kd.V_reads' HO127.out).2.1); rintro e w27 ⟨v131, rfl, ho0, hb⟩; refine ⟨_, rfl, ?_⟩; refine ax5 (Kd.V_below (kv HO_1) hb) (Kd.V_below (kv HO127) hb) (Kd.V_lower (Kd.V_mono (ok' := fun k_ => (P1_ k_ ∨ w.heap.size ≤ k_) ∧ k_ ≠ gb115) ho0 (fun k_ hk_ => ⟨(.inr (Nat.le_trans (below_size bes) hk_)), (fb BK115 k_ hk_)⟩)) (below_size bes)) (bb BK115 hb) (below_step bes hb) ?_; clear HO_1; clear HO127; clear BK115; clear HB; intro HO_1 HO127 HO132 BK115 HB; (try clear hb); (try clear ho0); obtain ⟨Ao28, co28, eo28⟩ := Kd.V_slice HO132.out; subst eo28; have hcz29_0 := bc BK115 0 rfl; have hcz29_1 := bc BK115 1 rfl; have hcz29_2 := bc BK115 2 rfl; have hfz29_0 := blk_frozen BK115.out 0; have hfz29_1 := blk_frozen BK115.out 1; have hfz29_2 := blk_frozen BK115.out 2))
        refine bodyPost_ret (results_cell_row rfl _ _ gb115 26 #[.bool a0, .slice Ao28 t130.length co28, .int .i64 (wrap64 ((wrap64 (a2 + (wrap64 (32 * x8_2)))) + t129))] (0, 0) _ rfl (by (with_reducible repeat (first | refine blk_drewN ?_ _ | refine blk_drew ?_ | refine blk_alloc ?_ _)); refine blk_put (cs := #[.bool a0, .slice Ao28 t130.length co28, .int .i64 0]) ?_ 2 _ rfl; (with_reducible repeat (first | refine blk_drewN ?_ _ | refine blk_drew ?_ | refine blk_alloc ?_ _)); refine blk_put (cs := #[.bool a0, .slice none 0 0, .int .i64 0]) ?_ 1 _ rfl; (with_reducible repeat (first | refine blk_drewN ?_ _ | refine blk_drew ?_ | refine blk_alloc ?_ _)); refine blk_put (cs := #[.bool false, .slice none 0 0, .int .i64 0]) ?_ 0 _ rfl; (with_reducible repeat (first | refine blk_drewN ?_ _ | refine blk_drew ?_ | refine blk_alloc ?_ _)); exact BK115.out) Tryd.underlying26 rfl (by kernel_rfl)) rfl ?_
        exact ⟨_, er, by (with_reducible repeat (first | apply Kd.V_alloc | apply Kd.V_drewN | apply Kd.V_drew)); exact Kd.V_mono (Kd.V_far (p := ⟨gb115, 2, none⟩) (Kd.V_far (p := ⟨gb115, 1, none⟩) (Kd.V_far (p := ⟨gb115, 0, none⟩) (Kd.V_mono HO132.out (fun k_ hk => (⟨hk, hk.2⟩ : _ ∧ k_ ≠ gb115))) (fun _ hk => hk.2) (.bool a0)) (fun _ hk => hk.2) (.slice Ao28 t130.length co28)) (fun _ hk => hk.2) (.int .i64 (wrap64 ((wrap64 (a2 + (wrap64 (32 * x8_2)))) + t129)))) (fun _ hk => hk.1.1), bes⟩
       ·
        rw [if_neg c24] at H
        have c24b0 : decide (0 < t129) = false := decide_eq_false c24
        clear c24
        simp only [Option.some.injEq, Prod.mk.injEq] at H
        obtain ⟨rfl, rfl, rfl⟩ := H
        have p122 : 0 ≤ (x8_2 : Int) := of_decide_eq_true (by first | (with_reducible assumption) | assumption)
        have q122 : x8_2 < (y117.length : Int) := of_decide_eq_true (by first | (with_reducible assumption) | assumption)
        obtain ⟨ad122, e122, hx122_0⟩ := Kd.at_int (Kd.V_reads' HO_1.out).2.2 x8_2 p122 q122
        cases e122
        replace p122 := eq_true p122
        replace q122 := eq_true q122
        have q30 : (x8_2 : Int) ≤ ((y117.length : Int) : Int) := of_decide_eq_true (by first | (with_reducible assumption) | assumption)
        obtain ⟨i030, hi030, _, hsz30, _⟩ := info_parts info56
        have hroom30 : y117.length ≤ c1 := (Kd.V_reads' HO_1.out).2.1
        have hC30 : Kd.F (Kd.int .u32) _ _ (some ad122) y117.length y117 := (Kd.V_at (base := w.heap.size) HO_1.out).2.2
        have q030 : (0 : Int) ≤ (x8_2 : Int) := of_decide_eq_true (by first | (with_reducible assumption) | assumption)
        have hcut30 := cut_from (P := Tryd.prog) 24 56 .i64 Tryd.underlying24 hi030 1 hsz30 (some ad122) y117.length c1 x8_2 q030 q30
        have hr30 := Kd.F_cut (m := (x8_2 : Int).toNat) (c := c1) hC30 (by omega) hroom30
        obtain ⟨A30, hA30⟩ : ∃ Az_, Az_ = (if c1 = (x8_2 : Int).toNat then (some ad122) else ((some ad122) : Option Addr).map (·.add ((x8_2 : Int).toNat * 1))) := ⟨_, rfl⟩
        obtain ⟨c30, hc30⟩ : ∃ cz_, cz_ = c1 - (x8_2 : Int).toNat := ⟨_, rfl⟩
        have hy30 : y123.length = y117.length - (x8_2 : Int).toNat := (by rw [Ny123.out, List.length_drop] <;> omega)
        rw [show (y117).drop (x8_2 : Int).toNat = y123 from Ny123.out.symm] at hr30
        replace hr30 : Kd.F (Kd.int .u32) _ _ A30 y123.length y123 := (by rw [hA30]; exact hr30)
        rw [← hy30, ← hA30, ← hc30] at hcut30
        have HO127 := Aside0.mk (show Kd.V (Kd.int .u32) 56 _ w.heap.size _ (.slice A30 y123.length c30) y123 from Kd.V_mk (by rw [hy30, hc30]; exact Nat.sub_le_sub_right hroom30 _) hr30)
        have HC127 := Aside0.mk (show y123.length ≤ c30 from by rw [hy30, hc30]; exact Nat.sub_le_sub_right hroom30 _)
        clear hr30 hC30 hroom30 hi030 hsz30 hc30
        have KY30 := Aside0.mk hy30
        have KA30 := Aside0.mk hA30
        clear hy30 hA30
        replace q30 := eq_true q30
        have p128 : 0 ≤ (0 : Int) := (by omega)
        have q128 : 0 < (y123.length : Int) := of_decide_eq_true (by first | (with_reducible assumption) | assumption)
        obtain ⟨ad128, e128, hx128_0⟩ := Kd.at_int (Kd.V_reads' HO127.out).2.2 0 p128 q128
        cases e128
        have qi128 : (0 < y123.length) = True := eq_true (by omega)
        (try rw [show ((0 : Int)).toNat = 0 from rfl] at hx128_0)
        (try rw [Addr.add_zero'] at hx128_0)
        replace p128 := eq_true p128
        replace q128 := eq_true q128
        go_wp2_with (first | ((with_reducible refine gate_callee (f := 57) rfl ?_); refine goesL_ (some 47) rfl rfl Tryd.func57 (by kernel_rfl) rfl #[.int .u32 (rd y123 0)] rfl ga ?_; (with_reducible refine (bits_TrailingZeros32.calls (rd y123 0) t129 _ ?side1 A23.out).mono ?_); (case side1 => first | exact hT | exact TabW.drewN hT _ | exact TabW.drew hT | exact TabW.below hT bes); rintro e w' ⟨rfl, ⟨nd, rfl⟩⟩; refine ⟨_, rfl, ?_⟩; (try (rw [drewN_self wr]; generalize hq_ : World.drewN wr _ = wr; have n0_ : Aside0 (Kd.V (Kd.int .u32) 56 wr w.heap.size (fun k_ => (P1_ k_ ∨ w.heap.size ≤ k_) ∧ k_ ≠ gb115) (.slice (some ad128) y123.length c30) y123) := ⟨by rw [← hq_]; exact (kv HO127)⟩; have n1_ : Aside0 (Kd.V (Kd.int .u32) 56 wr w.heap.size (fun k_ => (P1_ k_ ∨ w.heap.size ≤ k_) ∧ k_ ≠ gb115) (.slice (some ad122) y117.length c1) y117) := ⟨by rw [← hq_]; exact (kv HO_1)⟩; have n2_ : Aside0 (wr.heap[gb115]? = some (.cells #[.bool false, .slice none 0 0, .int .i64 0] 26 (0, 0))) := ⟨by rw [← hq_]; exact (kb BK115)⟩; have n3_ : Aside0 (Below w.heap.size w wr) := ⟨by rw [← hq_]; exact bes⟩; clear HO127 HO_1 BK115 HB hq_; have HO127 := n0_; have HO_1 := n1_; have BK115 := n2_; have HB := n3_; clear n0_ n1_ n2_ n3_)); have hcz31_0 := bc BK115 0 rfl; have hcz31_1 := bc BK115 1 rfl; have hcz31_2 := bc BK115 2 rfl; have hfz31_0 := blk_frozen BK115.out 0; have hfz31_1 := blk_frozen BK115.out 1; have hfz31_2 := blk_frozen BK115.out 2))
        refine bodyPost_ret (results_cell_row rfl _ _ gb115 26 #[.bool a0, .slice (some ad128) y123.length c30, .int .i64 (wrap64 (a2 + (wrap64 (32 * x8_2))))] (0, 0) _ rfl (by (with_reducible repeat (first | refine blk_drewN ?_ _ | refine blk_drew ?_ | refine blk_alloc ?_ _)); refine blk_put (cs := #[.bool a0, .slice (some ad128) y123.length c30, .int .i64 0]) ?_ 2 _ rfl; (with_reducible repeat (first | refine blk_drewN ?_ _ | refine blk_drew ?_ | refine blk_alloc ?_ _)); refine blk_put (cs := #[.bool a0, .slice none 0 0, .int .i64 0]) ?_ 1 _ rfl; (with_reducible repeat (first | refine blk_drewN ?_ _ | refine blk_drew ?_ | refine blk_alloc ?_ _)); refine blk_put (cs := #[.bool false, .slice none 0 0, .int .i64 0]) ?_ 0 _ rfl; (with_reducible repeat (first | refine blk_drewN ?_ _ | refine blk_drew ?_ | refine blk_alloc ?_ _)); exact BK115.out) Tryd.underlying26 rfl (by kernel_rfl)) rfl ?_
        exact ⟨_, er, by (with_reducible repeat (first | apply Kd.V_alloc | apply Kd.V_drewN | apply Kd.V_drew)); exact Kd.V_mono (Kd.V_far (p := ⟨gb115, 2, none⟩) (Kd.V_far (p := ⟨gb115, 1, none⟩) (Kd.V_far (p := ⟨gb115, 0, none⟩) (Kd.V_mono HO127.out (fun k_ hk => (⟨hk, hk.2⟩ : _ ∧ k_ ≠ gb115))) (fun _ hk => hk.2) (.bool a0)) (fun _ hk => hk.2) (.slice (some ad128) y123.length c30)) (fun _ hk => hk.2) (.int .i64 (wrap64 (a2 + (wrap64 (32 * x8_2)))))) (fun _ hk => hk.1.1), bes⟩
/-! ### dyad_line_1: function 59 -/
def dyad_line_1.l0 : Nat → List Int → Int → Option (List Int)
 | 0, _, _ => none
 | k + 1, x0, x3 => if x3 > 0 then (if 0 ≤ (wrap64 (x3 - 1)) then (if (wrap64 (x3 - 1)) < (x0.length : Int) then (if (rd x0 (wrap64 (x3 - 1))) = 0 then (dyad_line_1.l0 k x0 (wrap64 (x3 - 1))) else (if 0 ≤ x3 then (if x3 ≤ (x0.length : Int) then (some (x0.take (x3 : Int).toNat)) else (none)) else (none))) else (none)) else (none)) else (if 0 ≤ x3 then (if x3 ≤ (x0.length : Int) then (some (x0.take (x3 : Int).toNat)) else (none)) else (none))
def dyad_line_1.f (k : Nat) (l0 : List Int) : Option (List Int) := dyad_line_1.l0 k l0 (l0.length : Int)
theorem dyad_line_1.mono_l : ∀ k, (∀ y0 y1, LeO (dyad_line_1.l0 k y0 y1) (dyad_line_1.l0 (k + 1) y0 y1))
 | 0 => fun _ _ r h => by simp [dyad_line_1.l0] at h
 | k + 1 => by
  have ih0 := dyad_line_1.mono_l k
  ·
   intro y0 y1
   unfold dyad_line_1.l0
   repeat' with_reducible first | apply ih0 | exact LeO.refl _ | exact LeO.none _ | refine LeO.ite ?_ ?_ | refine LeO.bind ?_ (fun _ => ?_)
theorem dyad_line_1.mono : ∀ a0 k, LeO (dyad_line_1.f k a0) (dyad_line_1.f (k + 1) a0) := by
 intro a0 k
 have ih0 := dyad_line_1.mono_l k
 unfold dyad_line_1.f
 repeat' with_reducible first | apply ih0 | exact LeO.refl _ | exact LeO.none _ | refine LeO.ite ?_ ?_ | refine LeO.bind ?_ (fun _ => ?_)
set_option maxHeartbeats 8000000 in
set_option maxRecDepth 100000 in
theorem dyad_line_1.calls (k : Nat) (P0_ : Nat → Prop) (A0 : Option Addr) (c0 : Nat) (l0 : List Int) (r : List Int) (w : World) (hs0 : Kd.V (Kd.int .u32) 56 w w.heap.size (fun k_ => P0_ k_) (.slice A0 l0.length c0) l0) (h : dyad_line_1.f k l0 = some r) :
  Calls Tryd.prog 59 #[.slice A0 l0.length c0] w fun e w' => ∃ v0_ : Value, e = .returned (v0_) ∧ Kd.V (Kd.int .u32) 56 w' w.heap.size (fun k_ => (P0_ k_ ∨ w.heap.size ≤ k_)) v0_ r ∧ Below w.heap.size w w' := by
 have HO0 := Aside0.mk (show Kd.V (Kd.int .u32) 56 w w.heap.size (fun k_ => (P0_ k_ ∨ w.heap.size ≤ k_)) (.slice A0 l0.length c0) l0 from Kd.V_mono hs0 (fun k_ hk => .inl hk))
 have HB := Aside0.mk (Below.refl w.heap.size w)
 have H : (dyad_line_1.l0 k l0 (l0.length : Int)) = some r := h
 clear h
 have H' := Aside0.mk H
 clear H
 go_enter Tryd.func59, Tryd.ntmps59
 go_wp2
 go_loopg [3] k (fun kq v3 w' => ∃ (x3_1 : Int), v3 = .int .i64 x3_1 ∧ Aside0 (dyad_line_1.l0 kq l0 x3_1 = some r) ∧ Aside0 (kq ≤ k) ∧ Aside0 (Kd.V (Kd.int .u32) 56 w' w.heap.size (fun k_ => (P0_ k_ ∨ w.heap.size ≤ k_)) (.slice A0 l0.length c0) l0) ∧ Aside0 (Below w.heap.size w w'))
 case atStart => exact ⟨((l0.length : Int)), (by first | rfl | (simp; done) | (simp [*]; done)), H', ⟨Nat.le_refl _⟩, ⟨kv HO0⟩, ⟨bel⟩⟩
 case round =>
  clear H'
  obtain ⟨x3_1, rfl, HA, HK1, HO_0, HB⟩ := hrel
  cases gk with
  | zero => exact absurd HA.out (by simp [dyad_line_1.l0])
  | succ k1 =>
   have H := HA.out
   clear HA
   simp only [dyad_line_1.l0] at H
   by_cases c2 : x3_1 > 0
   ·
    rw [if_pos c2] at H
    have c2b0 : decide (0 < x3_1) = true := decide_eq_true c2
    clear c2
    obtain ⟨ji3, hji3⟩ : ∃ j_ : Int, (wrap64 (x3_1 - 1)) = j_ := ⟨_, rfl⟩
    replace H : (if 0 ≤ (ji3) then (if (ji3) < (l0.length : Int) then (if (rd l0 (ji3)) = 0 then (dyad_line_1.l0 k1 l0 ji3) else (if 0 ≤ x3_1 then (if x3_1 ≤ (l0.length : Int) then (some (l0.take (x3_1 : Int).toNat)) else (none)) else (none))) else (none)) else (none)) = some r := by first | (rw [hji3] at H; exact H) | (simp only [hji3] at H ⊢; exact H)
    have hji3w : (IntKind.i64.wrap (x3_1 - 1)) = ji3 := (i64_w _).trans hji3
    by_cases c4 : 0 ≤ (ji3)
    rotate_left
    ·
     rw [if_neg c4] at H
     exact absurd H (by simp)
    rw [if_pos c4] at H
    have c4b0 : decide (0 ≤ (ji3)) = true := decide_eq_true c4
    clear c4
    by_cases c5 : (ji3) < (l0.length : Int)
    rotate_left
    ·
     rw [if_neg c5] at H
     exact absurd H (by simp)
    rw [if_pos c5] at H
    have c5b0 : decide ((ji3) < (l0.length : Int)) = true := decide_eq_true c5
    clear c5
    by_cases c6 : (rd l0 (ji3)) = 0
    ·
     rw [if_pos c6] at H
     have c6b0 : ((rd l0 (ji3)) == 0) = true := beq_iff_eq.mpr c6
     have c6b1 : ((rd l0 (ji3)) != 0) = false := bne_eq_false_iff_eq.mpr c6
     clear c6
     have H' := Aside0.mk H
     clear H
     have p133 : 0 ≤ ((ji3) : Int) := of_decide_eq_true (by first | (with_reducible assumption) | assumption)
     have q133 : (ji3) < (l0.length : Int) := of_decide_eq_true (by first | (with_reducible assumption) | assumption)
     obtain ⟨ad133, e133, hx133_0⟩ := Kd.at_int (Kd.V_reads' HO_0.out).2.2 (ji3) p133 q133
     cases e133
     replace p133 := eq_true p133
     replace q133 := eq_true q133
     go_wp2
     go_roundg k1
     case measure => have := HK1.out; omega
     case rel => exact ⟨(ji3), (by first | rfl | (simp; done) | (simp only [← hji3] <;> (first | rfl | simp)) | (simp [*]; done)), H', ⟨by have := HK1.out; omega⟩, ⟨kv HO_0⟩, ⟨bel⟩⟩
    ·
     rw [if_neg c6] at H
     have c6b0 : ((rd l0 (ji3)) == 0) = false := beq_eq_false_iff_ne.mpr c6
     have c6b1 : ((rd l0 (ji3)) != 0) = true := bne_iff_ne.mpr c6
     by_cases c7 : 0 ≤ x3_1
     rotate_left
     ·
      rw [if_neg c7] at H
      exact absurd H (by simp)
     rw [if_pos c7] at H
     have c7b0 := eq_true c7
     have c7b1 : decide (0 ≤ x3_1) = true := decide_eq_true c7
     clear c7
     by_cases c8 : x3_1 ≤ (l0.length : Int)
     rotate_left
     ·
      rw [if_neg c8] at H
      exact absurd H (by simp)
     rw [if_pos c8] at H
     have c8b0 := eq_true c8
     have c8b1 : decide (x3_1 ≤ (l0.length : Int)) = true := decide_eq_true c8
     clear c8
     obtain ⟨y134, hy134⟩ : ∃ y_ : List Int, y_ = (l0.take (x3_1 : Int).toNat) := ⟨_, rfl⟩
     replace H : (some y134) = some r := by first | (rw [hy134]; with_reducible exact H) | (have H2_ := (Option.bind_some _ _).symm.trans H; rw [hy134]; with_reducible exact H2_) | (have H2_ := (Option.bind_some _ _).symm.trans H; with_reducible exact H2_) | with_reducible exact H | (rw [hy134]; exact H) | exact H
     have Ny134 := Aside0.mk hy134
     clear hy134
     obtain rfl := Option.some.inj H
     have p133 : 0 ≤ ((ji3) : Int) := of_decide_eq_true (by first | (with_reducible assumption) | assumption)
     have q133 : (ji3) < (l0.length : Int) := of_decide_eq_true (by first | (with_reducible assumption) | assumption)
     obtain ⟨ad133, e133, hx133_0⟩ := Kd.at_int (Kd.V_reads' HO_0.out).2.2 (ji3) p133 q133
     cases e133
     replace p133 := eq_true p133
     replace q133 := eq_true q133
     have q9 : (x3_1 : Int) ≤ ((l0.length : Int) : Int) := of_decide_eq_true (by first | (with_reducible assumption) | assumption)
     obtain ⟨i09, hi09, _, hsz9, _⟩ := info_parts info56
     have hroom9 : l0.length ≤ c0 := (Kd.V_reads' HO_0.out).2.1
     have hC9 : Kd.F (Kd.int .u32) _ _ (some ad133) l0.length l0 := (Kd.V_at (base := w.heap.size) HO_0.out).2.2
     have hcut9 := cut_to (P := Tryd.prog) 24 56 .i64 Tryd.underlying24 hi09 (some ad133) l0.length c0 x3_1 (of_decide_eq_true (by first | (with_reducible assumption) | assumption)) q9 hroom9
     have hr9 := Kd.F_take (m := (x3_1 : Int).toNat) hC9 (by omega)
     have hy9 : y134.length = (x3_1 : Int).toNat := (by rw [Ny134.out, List.length_take]; omega)
     rw [← Ny134.out] at hr9
     rw [← hy9] at hcut9
     have HO138 := Aside0.mk (show Kd.V (Kd.int .u32) 56 _ w.heap.size _ (.slice (some ad133) y134.length c0) y134 from Kd.V_mk (by omega) hr9)
     have HC138 := Aside0.mk (show y134.length ≤ c0 from by omega)
     clear hr9 hC9 hroom9 hi09 hsz9
     have KY9 := Aside0.mk hy9
     clear hy9
     replace q9 := eq_true q9
     go_wp2
     go_ret
     exact ⟨_, by first | rfl | (simp [errW_none, errW_some] <;> rfl) | (simp only [← hji3]; first | rfl | (simp [errW_none, errW_some] <;> rfl)) | (simp [*, errW_none, errW_some] <;> rfl), kv HO138, bel⟩
   ·
    rw [if_neg c2] at H
    have c2b0 : decide (0 < x3_1) = false := decide_eq_false c2
    clear c2
    by_cases c10 : 0 ≤ x3_1
    rotate_left
    ·
     rw [if_neg c10] at H
     exact absurd H (by simp)

    rw [if_pos c10] at H
    have c10b0 := eq_true c10
    have c10b1 : decide (0 ≤ x3_1) = true := decide_eq_true c10
    clear c10
    by_cases c11 : x3_1 ≤ (l0.length : Int)
    rotate_left
    ·
     rw [if_neg c11] at H
     exact absurd H (by simp)
    rw [if_pos c11] at H
    have c11b0 := eq_true c11
    have c11b1 : decide (x3_1 ≤ (l0.length : Int)) = true := decide_eq_true c11
    clear c11
    obtain ⟨y139, hy139⟩ : ∃ y_ : List Int, y_ = (l0.take (x3_1 : Int).toNat) := ⟨_, rfl⟩
    replace H : (some y139) = some r := by first | (rw [hy139]; with_reducible exact H) | (have H2_ := (Option.bind_some _ _).symm.trans H; rw [hy139]; with_reducible exact H2_) | (have H2_ := (Option.bind_some _ _).symm.trans H; with_reducible exact H2_) | with_reducible exact H | (rw [hy139]; exact H) | exact H
    have Ny139 := Aside0.mk hy139
    clear hy139
    obtain rfl := Option.some.inj H
    have q12 : (x3_1 : Int) ≤ ((l0.length : Int) : Int) := of_decide_eq_true (by first | (with_reducible assumption) | assumption)
    obtain ⟨i012, hi012, _, hsz12, _⟩ := info_parts info56
    have hroom12 : l0.length ≤ c0 := (Kd.V_reads' HO_0.out).2.1
    have hC12 : Kd.F (Kd.int .u32) _ _ A0 l0.length l0 := (Kd.V_at (base := w.heap.size) HO_0.out).2.2
    have hcut12 := cut_to (P := Tryd.prog) 24 56 .i64 Tryd.underlying24 hi012 A0 l0.length c0 x3_1 (of_decide_eq_true (by first | (with_reducible assumption) | assumption)) q12 hroom12
    have hr12 := Kd.F_take (m := (x3_1 : Int).toNat) hC12 (by omega)
    have hy12 : y139.length = (x3_1 : Int).toNat := (by rw [Ny139.out, List.length_take]; omega)
    rw [← Ny139.out] at hr12
    rw [← hy12] at hcut12
    have HO143 := Aside0.mk (show Kd.V (Kd.int .u32) 56 _ w.heap.size _ (.slice A0 y139.length c0) y139 from Kd.V_mk (by omega) hr12)
    have HC143 := Aside0.mk (show y139.length ≤ c0 from by omega)
    clear hr12 hC12 hroom12 hi012 hsz12
    have KY12 := Aside0.mk hy12
    clear hy12
    replace q12 := eq_true q12
    go_wp2
    go_ret
    exact ⟨_, er, kv HO143, bel⟩
/-! ### dyad_up: function 60 -/
def dyad_up.l0 : Nat → List Int → Int → Int → List Int → Int → Int → Option (List Int)
 | 0, _, _, _, _, _, _ => none
 | k + 1, x5, x6, x7, x21, x22, x23 => if x23 < x22 then (if 0 ≤ x23 then (if x23 < (x21.length : Int) then (if 0 ≤ x6 then (if x5.length < 35184372088832 then (if 0 ≤ (wrap64 (32 - x6)) then (dyad_up.l0 k (x5 ++ [Go.bits .or .u32 (shl .u32 (rd x21 x23) x6) x7]) x6 ((shr .u64 (IntKind.u64.wrap (rd x21 x23)) (wrap64 (32 - x6))) % 4294967296) x21 x22 (wrap64 (x23 + 1))) else (none)) else (none)) else (none)) else (none)) else (none)) else (if x5.length < 35184372088832 then (some (x5 ++ [x7])) else (none))
def dyad_up.f (k : Nat) (l0 : List Int) (a1 : Int) : Option (List Int) := if 0 ≤ (wrap64 (Int.tdiv a1 32)) then (if (wrap64 (Int.tdiv a1 32)) ≤ (wrap64 ((wrap64 ((wrap64 (Int.tdiv a1 32)) + (l0.length : Int))) + 1)) then (if (wrap64 ((wrap64 ((wrap64 (Int.tdiv a1 32)) + (l0.length : Int))) + 1) : Int).toNat ≤ 70368744177664 then (dyad_up.l0 k (List.replicate (wrap64 (Int.tdiv a1 32) : Int).toNat 0) (Int.tmod a1 32) 0 l0 (l0.length : Int) 0) else (none)) else (none)) else (none)
theorem dyad_up.mono_l : ∀ k, (∀ y0 y1 y2 y3 y4 y5, LeO (dyad_up.l0 k y0 y1 y2 y3 y4 y5) (dyad_up.l0 (k + 1) y0 y1 y2 y3 y4 y5))
 | 0 => fun _ _ _ _ _ _ r h => by simp [dyad_up.l0] at h
 | k + 1 => by
  have ih0 := dyad_up.mono_l k
  ·
   intro y0 y1 y2 y3 y4 y5
   unfold dyad_up.l0
   repeat' with_reducible first | apply ih0 | exact LeO.refl _ | exact LeO.none _ | refine LeO.ite ?_ ?_ | refine LeO.bind ?_ (fun _ => ?_)
theorem dyad_up.mono : ∀ a0 a1 k, LeO (dyad_up.f k a0 a1) (dyad_up.f (k + 1) a0 a1) := by
 intro a0 a1 k
 have ih0 := dyad_up.mono_l k
 unfold dyad_up.f
 repeat' with_reducible first | apply ih0 | exact LeO.refl _ | exact LeO.none _ | refine LeO.ite ?_ ?_ | refine LeO.bind ?_ (fun _ => ?_)
set_option maxHeartbeats 8000000 in
set_option maxRecDepth 100000 in
theorem dyad_up.calls (k : Nat) (A0 : Option Addr) (c0 : Nat) (l0 : List Int) (a1 : Int) (r : List Int) (w : World) (hr0 : Kd.C (Kd.int .u32) w A0 l0.length l0) (hc0 : l0.length ≤ c0) (h : dyad_up.f k l0 a1 = some r) :
  Calls Tryd.prog 60 #[.slice A0 l0.length c0, .int .i64 a1] w fun e w' => ∃ v0_ : Value, e = .returned (v0_) ∧ Kd.R (Kd.int .u32) 56 w' w.heap.size (fun _ => True) v0_ r ∧ Below w.heap.size w w' := by
 have HR0 := Aside0.mk hr0
 have HC0 := Aside0.mk hc0
 clear hr0 hc0
 have HB := Aside0.mk (Below.refl w.heap.size w)
 have H : (if 0 ≤ (wrap64 (Int.tdiv a1 32)) then (if (wrap64 (Int.tdiv a1 32)) ≤ (wrap64 ((wrap64 ((wrap64 (Int.tdiv a1 32)) + (l0.length : Int))) + 1)) then (if (wrap64 ((wrap64 ((wrap64 (Int.tdiv a1 32)) + (l0.length : Int))) + 1) : Int).toNat ≤ 70368744177664 then (dyad_up.l0 k (List.replicate (wrap64 (Int.tdiv a1 32) : Int).toNat 0) (Int.tmod a1 32) 0 l0 (l0.length : Int) 0) else (none)) else (none)) else (none)) = some r := h
 clear h
 obtain ⟨jt0, hjt0⟩ : ∃ j_ : Int, (Int.tmod a1 32) = j_ := ⟨_, rfl⟩
 replace H : (if 0 ≤ (wrap64 (Int.tdiv a1 32)) then (if (wrap64 (Int.tdiv a1 32)) ≤ (wrap64 ((wrap64 ((wrap64 (Int.tdiv a1 32)) + (l0.length : Int))) + 1)) then (if (wrap64 ((wrap64 ((wrap64 (Int.tdiv a1 32)) + (l0.length : Int))) + 1) : Int).toNat ≤ 70368744177664 then (dyad_up.l0 k (List.replicate (wrap64 (Int.tdiv a1 32) : Int).toNat 0) jt0 0 l0 (l0.length : Int) 0) else (none)) else (none)) else (none)) = some r := by first | (rw [hjt0] at H; exact H) | (simp only [hjt0] at H ⊢; exact H)
 obtain ⟨ji3, hji3⟩ : ∃ j_ : Int, (wrap64 (Int.tdiv a1 32)) = j_ := ⟨_, rfl⟩
 replace H : (if 0 ≤ (ji3) then (if (ji3) ≤ (wrap64 ((wrap64 ((ji3) + (l0.length : Int))) + 1)) then (if (wrap64 ((wrap64 ((ji3) + (l0.length : Int))) + 1) : Int).toNat ≤ 70368744177664 then (dyad_up.l0 k (List.replicate (ji3 : Int).toNat 0) jt0 0 l0 (l0.length : Int) 0) else (none)) else (none)) else (none)) = some r := by first | (rw [hji3] at H; exact H) | (simp only [hji3] at H ⊢; exact H)
 have hji3w : (IntKind.i64.wrap (Int.tdiv a1 32)) = ji3 := (i64_w _).trans hji3
 by_cases c4 : 0 ≤ (ji3)
 rotate_left
 ·
  rw [if_neg c4] at H
  exact absurd H (by simp)

 rw [if_pos c4] at H
 have c4b0 := eq_true c4
 have c4b1 : decide (0 ≤ (ji3)) = true := decide_eq_true c4
 clear c4
 by_cases c5 : (ji3) ≤ (wrap64 ((wrap64 ((ji3) + (l0.length : Int))) + 1))
 rotate_left
 ·
  rw [if_neg c5] at H
  exact absurd H (by simp)
 rw [if_pos c5] at H
 have c5b0 := eq_true c5
 have c5b1 : decide ((ji3) ≤ (wrap64 ((wrap64 ((ji3) + (l0.length : Int))) + 1))) = true := decide_eq_true c5
 by_cases c6 : (wrap64 ((wrap64 ((ji3) + (l0.length : Int))) + 1) : Int).toNat ≤ 70368744177664
 rotate_left
 ·
  rw [if_neg c6] at H
  exact absurd H (by simp)
 rw [if_pos c6] at H
 have c6b0 := eq_true c6
 have c6b1 : decide ((wrap64 ((wrap64 ((ji3) + (l0.length : Int))) + 1) : Int).toNat ≤ 70368744177664) = true := decide_eq_true c6
 obtain ⟨y144, hy144⟩ : ∃ y_ : List Int, y_ = (List.replicate (ji3 : Int).toNat 0) := ⟨_, rfl⟩
 replace H : (dyad_up.l0 k y144 jt0 0 l0 (l0.length : Int) 0) = some r := by first | (rw [hy144]; with_reducible exact H) | (have H2_ := (Option.bind_some _ _).symm.trans H; rw [hy144]; with_reducible exact H2_) | (have H2_ := (Option.bind_some _ _).symm.trans H; with_reducible exact H2_) | with_reducible exact H | (rw [hy144]; exact H) | exact H
 have Ny144 := Aside0.mk hy144
 clear hy144
 have H' := Aside0.mk H
 clear H
 go_enter Tryd.func60, Tryd.ntmps60
 go_wp2_with (first | ((with_reducible refine gate_dst (N := 18) rfl ?_); refine Kd.R_makeC (Kd.int .u32) _ 56 rfl (N := 18) rfl 24 _ _ rfl ji3 (wrap64 ((wrap64 ((ji3) + (l0.length : Int))) + 1)) rfl rfl Tryd.underlying24 (.int .u32 0) 4 info56 rfl (by decide) (by omega) 0 (ok := fun _ => True) (okp := fun _ => True) rfl (fun _ hk => hk) trivial (of_decide_eq_true (by first | (with_reducible assumption) | assumption)) (of_decide_eq_true (by first | (with_reducible assumption) | assumption)) (Nat.le_trans (Nat.mul_le_mul_right _ (of_decide_eq_true (by first | (with_reducible assumption) | assumption) : (wrap64 ((wrap64 ((ji3) + (l0.length : Int))) + 1)).toNat ≤ 70368744177664)) (by omega)) (Below.refl _ _) (Nat.le_refl _) ?_; intro v145 w7 ho8 hb hg_ hnew_; clear hg_ hnew_; (first | rw [← Ny144.out] at ho8 | (simp only [Int.reduceToNat] at ho8; rw [← Ny144.out] at ho8)); refine ax2 (Kd.R_lower ho8 (below_size bel)) (below_step bel hb) ?_; clear HB; intro HO146 HB; clear hb ho8))
 go_loopg [5, 7, 23] k (fun kq v5 v7 v23 w' => ∃ (x5_1 : List Int) (x7_1 : Int) (x23_1 : Int), v7 = .int .u32 x7_1 ∧ v23 = .int .i64 x23_1 ∧ Aside0 (dyad_up.l0 kq x5_1 jt0 x7_1 l0 (l0.length : Int) x23_1 = some r) ∧ Aside0 (kq ≤ k) ∧ Aside0 (Kd.R (Kd.int .u32) 56 w' w.heap.size (fun _ => True) v5 x5_1) ∧ Aside0 (Below w.heap.size w w'))
 case atStart => exact ⟨(y144), (0), (0), (by first | rfl | (simp; done) | (simp [*]; done)), (by first | rfl | (simp; done) | (simp [*]; done)), H', ⟨Nat.le_refl _⟩, ⟨kr HO146⟩, ⟨bel⟩⟩
 case round =>
  clear H'
  try clear p2
  try clear c4
  try clear c4b0
  try clear c4b1
  try clear c5
  try clear c5b0
  try clear c5b1
  try clear c6
  try clear c6b0
  try clear c6b1
  try clear p6
  obtain ⟨x5_1, x7_1, x23_1, rfl, rfl, HA, HK1, HO_5, HB⟩ := hrel
  cases gk with
  | zero => exact absurd HA.out (by simp [dyad_up.l0])
  | succ k1 =>
   have H := HA.out
   clear HA
   simp only [dyad_up.l0] at H
   by_cases c9 : x23_1 < (l0.length : Int)
   ·
    rw [if_pos c9] at H
    have c9b0 : decide (x23_1 < (l0.length : Int)) = true := decide_eq_true c9
    clear c9
    by_cases c10 : 0 ≤ x23_1
    rotate_left
    ·
     rw [if_neg c10] at H
     exact absurd H (by simp)
    rw [if_pos c10] at H
    have c10b0 : decide (0 ≤ x23_1) = true := decide_eq_true c10
    clear c10
    by_cases c11 : x23_1 < (l0.length : Int)
    rotate_left
    ·
     rw [if_neg c11] at H
     exact absurd H (by simp)
    rw [if_pos c11] at H
    have c11b0 : decide (x23_1 < (l0.length : Int)) = true := decide_eq_true c11
    clear c11
    by_cases c13 : 0 ≤ jt0
    rotate_left
    ·
     rw [if_neg c13] at H
     exact absurd H (by simp)
    rw [if_pos c13] at H
    have c13b0 := eq_true c13
    have c13b1 : decide (0 ≤ jt0) = true := decide_eq_true c13
    clear c13
    obtain ⟨ji14, hji14⟩ : ∃ j_ : Int, (shl .u32 (rd l0 x23_1) jt0) = j_ := ⟨_, rfl⟩
    replace H : (if x5_1.length < 35184372088832 then (if 0 ≤ (wrap64 (32 - jt0)) then (dyad_up.l0 k1 (x5_1 ++ [Go.bits .or .u32 (ji14) x7_1]) jt0 ((shr .u64 (IntKind.u64.wrap (rd l0 x23_1)) (wrap64 (32 - jt0))) % 4294967296) l0 (l0.length : Int) (wrap64 (x23_1 + 1))) else (none)) else (none)) = some r := by first | (rw [hji14] at H; exact H) | (simp only [hji14] at H ⊢; exact H)
    have hji14_ : (IntKind.u32.wrap ((rd l0 x23_1) * 2 ^ min jt0.toNat 32)) = ji14 := hji14
    have hji14z : jt0 ≤ 32 → (IntKind.u32.wrap ((rd l0 x23_1) * 2 ^ jt0.toNat)) = ji14 := shl_small hji14
    by_cases c15 : x5_1.length < 35184372088832
    rotate_left
    ·
     rw [if_neg c15] at H
     exact absurd H (by simp)
    rw [if_pos c15] at H
    have LMc15 := Aside0.mk c15
    clear c15
    obtain ⟨y148, hy148⟩ : ∃ y_ : List Int, y_ = (x5_1 ++ [Go.bits .or .u32 (ji14) x7_1]) := ⟨_, rfl⟩
    replace H : (if 0 ≤ (wrap64 (32 - jt0)) then (dyad_up.l0 k1 y148 jt0 ((shr .u64 (IntKind.u64.wrap (rd l0 x23_1)) (wrap64 (32 - jt0))) % 4294967296) l0 (l0.length : Int) (wrap64 (x23_1 + 1))) else (none)) = some r := by first | (rw [hy148]; with_reducible exact H) | (have H2_ := (Option.bind_some _ _).symm.trans H; rw [hy148]; with_reducible exact H2_) | (have H2_ := (Option.bind_some _ _).symm.trans H; with_reducible exact H2_) | with_reducible exact H | (rw [hy148]; exact H) | exact H
    have Ny148 := Aside0.mk hy148
    clear hy148
    obtain ⟨ji16, hji16⟩ : ∃ j_ : Int, (wrap64 (32 - jt0)) = j_ := ⟨_, rfl⟩
    replace H : (if 0 ≤ (ji16) then (dyad_up.l0 k1 y148 jt0 ((shr .u64 (IntKind.u64.wrap (rd l0 x23_1)) (ji16)) % 4294967296) l0 (l0.length : Int) (wrap64 (x23_1 + 1))) else (none)) = some r := by first | (rw [hji16] at H; exact H) | (simp only [hji16] at H ⊢; exact H)
    have hji16w : (IntKind.i64.wrap (32 - jt0)) = ji16 := (i64_w _).trans hji16
    by_cases c17 : 0 ≤ (ji16)
    rotate_left
    ·
     rw [if_neg c17] at H
     exact absurd H (by simp)
    rw [if_pos c17] at H
    have c17b0 := eq_true c17
    have c17b1 : decide (0 ≤ (ji16)) = true := decide_eq_true c17
    clear c17
    obtain ⟨ji18, hji18⟩ : ∃ j_ : Int, (shr .u64 (IntKind.u64.wrap (rd l0 x23_1)) (ji16)) = j_ := ⟨_, rfl⟩
    replace H : (dyad_up.l0 k1 y148 jt0 ((ji18) % 4294967296) l0 (l0.length : Int) (wrap64 (x23_1 + 1))) = some r := by first | (rw [hji18] at H; exact H) | (simp only [hji18] at H ⊢; exact H)
    have hji18_ : ((IntKind.u64.wrap (rd l0 x23_1)) / 2 ^ min (ji16).toNat 64) = ji18 := hji18
    have hji18z : (ji16) ≤ 64 → ((IntKind.u64.wrap (rd l0 x23_1)) / 2 ^ (ji16).toNat) = ji18 := shr_small hji18
    have H' := Aside0.mk H
    clear H
    have p147 : 0 ≤ (x23_1 : Int) := of_decide_eq_true (by first | (with_reducible assumption) | assumption)
    have q147 : x23_1 < (l0.length : Int) := of_decide_eq_true (by first | (with_reducible assumption) | assumption)
    obtain ⟨ad147, e147, hx147_0⟩ := Kd.at_int HR0.out x23_1 p147 q147
    cases e147
    replace hx147_0 := (HB.out.cell (World.block_lt_of_cell? w _ hx147_0)).trans hx147_0
    replace p147 := eq_true p147
    replace q147 := eq_true q147
    go_wp2_with (first | ((with_reducible refine gate_builtin (b := .append) (xs := #[.tmp 27, .tmp 33]) rfl ?_); at_builtin; refine Kd.R_append (Kd.int .u32) (w0 := w) w.heap.size rfl (.tmp 27) (.tmp 33) 24 56 (.int .u32 0) 4 rfl Tryd.underlying24 info56 rfl (by decide) (by omega) u5 x5_1 (Go.bits .or .u32 (ji14) x7_1) [.int .u32 (Go.bits .or .u32 (ji14) x7_1)] (fun _ => True) (fun _ => False) rfl rfl ?aP (fun _ hk => hk.elim) ?aF ?aO ?aB ?aS ?aL ?_; (case aP => exact rfl); (case aB => exact bel); (case aF => exact (fun _ _ => trivial)); (case aO => exact (kr HO_5)); (case aS => exact (below_size bel)); (case aL => have := LMc15.out; omega); intro v149 w19 ho hb hg hat; rw [← Ny148.out] at ho; refine ax2 hb ho ?_; clear HB; clear HO_5; intro HB HO150; clear ho hb hg hat))
    go_roundg k1
    case measure => have := HK1.out; omega
    case rel => exact ⟨(y148), ((ji18) % 4294967296), (wrap64 (x23_1 + 1)), (by first | rfl | (simp; done) | (simp only [← hji18] <;> (first | rfl | simp)) | (simp [*]; done)), (by first | rfl | (simp; done) | (simp [*]; done)), H', ⟨by have := HK1.out; omega⟩, ⟨kr HO150⟩, ⟨bel⟩⟩
   ·
    rw [if_neg c9] at H
    have c9b0 : decide (x23_1 < (l0.length : Int)) = false := decide_eq_false c9
    clear c9
    by_cases c20 : x5_1.length < 35184372088832
    rotate_left
    ·
     rw [if_neg c20] at H
     exact absurd H (by simp)
    rw [if_pos c20] at H
    have LMc20 := Aside0.mk c20
    clear c20
    obtain ⟨y151, hy151⟩ : ∃ y_ : List Int, y_ = (x5_1 ++ [x7_1]) := ⟨_, rfl⟩
    replace H : (some y151) = some r := by first | (rw [hy151]; with_reducible exact H) | (have H2_ := (Option.bind_some _ _).symm.trans H; rw [hy151]; with_reducible exact H2_) | (have H2_ := (Option.bind_some _ _).symm.trans H; with_reducible exact H2_) | with_reducible exact H | (rw [hy151]; exact H) | exact H
    have Ny151 := Aside0.mk hy151
    clear hy151
    obtain rfl := Option.some.inj H
    go_wp2_with (first | ((with_reducible refine gate_builtin (b := .append) (xs := #[.tmp 42, .tmp 44]) rfl ?_); at_builtin; refine Kd.R_append (Kd.int .u32) (w0 := w) w.heap.size rfl (.tmp 42) (.tmp 44) 24 56 (.int .u32 0) 4 rfl Tryd.underlying24 info56 rfl (by decide) (by omega) u5 x5_1 x7_1 [.int .u32 x7_1] (fun _ => True) (fun _ => False) rfl rfl ?aP (fun _ hk => hk.elim) ?aF ?aO ?aB ?aS ?aL ?_; (case aP => exact rfl); (case aB => exact bel); (case aF => exact (fun _ _ => trivial)); (case aO => exact (kr HO_5)); (case aS => exact (below_size bel)); (case aL => have := LMc20.out; omega); intro v152 w21 ho hb hg hat; rw [← Ny151.out] at ho; refine ax2 hb ho ?_; clear HB; clear HO_5; intro HB HO153; clear ho hb hg hat))
    go_ret
    exact ⟨_, by first | rfl | (simp [errW_none, errW_some] <;> rfl) | (simp only [← hji3]; first | rfl | (simp [errW_none, errW_some] <;> rfl)) | (simp [*, errW_none, errW_some] <;> rfl), kr HO153, bel⟩
end Go.Proofs.YtakegikedpcilaaDoor.F
