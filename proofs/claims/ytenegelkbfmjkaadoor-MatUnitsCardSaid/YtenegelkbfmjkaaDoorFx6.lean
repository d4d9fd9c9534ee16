-- Written by a program of this seat's session (mkprint), out of the translation.
import Derived.Test.YtenegelkbfmjkaaDoorShort
import Derived.Test.YtenegelkbfmjkaaDoorFx0
import Derived.Test.YtenegelkbfmjkaaDoorFx2
import Derived.Test.YtenegelkbfmjkaaDoorFx5
namespace Go.Proofs.YtenegelkbfmjkaaDoor.F
open Go.RowKit Go.Proofs.YtenegelkbfmjkaaDoorW.PrintWords Go.Proofs.YtenegelkbfmjkaaDoorW.PrintLast Go.Proofs.YtenegelkbfmjkaaDoorW.PrintMore
attribute [local go_sem] max2_int min2_int max_two min_two max_three min_three max_four min_four   -- for this text's walks alone
set_option linter.unusedVariables false
set_option linter.unusedSimpArgs false

/-! ### dyad_trim: function 27 -/
mutual
def dyad_trim.j1 : Nat → Bool → List Int → Int → Int → Option (Bool × List Int × Int)
 | 0, _, _, _, _ => none
 | k + 1, x0, x1, x2, x7 => if 0 ≤ x7 then (if x7 ≤ (x1.length : Int) then (if x7 = 0 then (some (false, ([] : List Int), 0)) else (dyad_trim.l1 k x0 (x1.take (x7 : Int).toNat) x2 0)) else (none)) else (none)
def dyad_trim.l1 : Nat → Bool → List Int → Int → Int → Option (Bool × List Int × Int)
 | 0, _, _, _, _ => none
 | k + 1, x0, x1, x2, x8 => if 0 ≤ x8 then (if x8 < (x1.length : Int) then (if (rd x1 x8) = 0 then (dyad_trim.l1 k x0 x1 x2 (wrap64 (x8 + 1))) else (if x8 ≤ (x1.length : Int) then ((some (x1.drop (x8 : Int).toNat : List Int)).bind fun y258 => (if 0 < (y258.length : Int) then ((bits_TrailingZeros32.f (rd y258 0)).bind fun t264 => (if t264 > 0 then ((dyad_down.f k y258 t264).bind fun t265 => (some (x0, t265, wrap64 ((wrap64 (x2 + (wrap64 (32 * x8)))) + t264)))) else (some (x0, y258, wrap64 (x2 + (wrap64 (32 * x8))))))) else (none))) else (none))) else (none)) else (none)
def dyad_trim.l0 : Nat → Bool → List Int → Int → Int → Option (Bool × List Int × Int)
 | 0, _, _, _, _ => none
 | k + 1, x0, x1, x2, x7 => if x7 > 0 then (if 0 ≤ (wrap64 (x7 - 1)) then (if (wrap64 (x7 - 1)) < (x1.length : Int) then (if (rd x1 (wrap64 (x7 - 1))) = 0 then (dyad_trim.l0 k x0 x1 x2 (wrap64 (x7 - 1))) else (dyad_trim.j1 k x0 x1 x2 x7)) else (none)) else (none)) else (dyad_trim.j1 k x0 x1 x2 x7)
end
def dyad_trim.f (k : Nat) (a0 : Bool) (l1 : List Int) (a2 : Int) : Option (Bool × List Int × Int) := dyad_trim.l0 k a0 l1 a2 (l1.length : Int)
theorem dyad_trim.mono_l : ∀ k, (∀ y0 y1 y2 y3, LeO (dyad_trim.j1 k y0 y1 y2 y3) (dyad_trim.j1 (k + 1) y0 y1 y2 y3)) ∧ (∀ y0 y1 y2 y3, LeO (dyad_trim.l1 k y0 y1 y2 y3) (dyad_trim.l1 (k + 1) y0 y1 y2 y3)) ∧ (∀ y0 y1 y2 y3, LeO (dyad_trim.l0 k y0 y1 y2 y3) (dyad_trim.l0 (k + 1) y0 y1 y2 y3))
 | 0 => ⟨fun _ _ _ _ r h => by simp [dyad_trim.j1] at h, fun _ _ _ _ r h => by simp [dyad_trim.l1] at h, fun _ _ _ _ r h => by simp [dyad_trim.l0] at h⟩
 | k + 1 => by
  obtain ⟨ih0, ih1, ih2⟩ := dyad_trim.mono_l k
  refine ⟨?_, ?_, ?_⟩ <;> intros <;> (first | unfold dyad_trim.j1 | unfold dyad_trim.l1 | unfold dyad_trim.l0) <;>
   repeat' with_reducible first | apply ih0 | apply ih1 | apply ih2 | apply dyad_down.mono | exact LeO.refl _ | exact LeO.none _ | refine LeO.ite ?_ ?_ | refine LeO.bind ?_ (fun _ => ?_)
theorem dyad_trim.mono : ∀ a0 a1 a2 k, LeO (dyad_trim.f k a0 a1 a2) (dyad_trim.f (k + 1) a0 a1 a2) := by
 intro a0 a1 a2 k
 obtain ⟨ih0, ih1, ih2⟩ := dyad_trim.mono_l k
 unfold dyad_trim.f
 repeat' with_reducible first | apply ih0 | apply ih1 | apply ih2 | apply dyad_down.mono | exact LeO.refl _ | exact LeO.none _ | refine LeO.ite ?_ ?_ | refine LeO.bind ?_ (fun _ => ?_)
set_option maxHeartbeats 8000000 in
set_option maxRecDepth 100000 in
theorem dyad_trim.calls (k : Nat) (a0 : Bool) (P1_ : Nat → Prop) (A1 : Option Addr) (c1 : Nat) (l1 : List Int) (a2 : Int) (r1 : Bool) (r2 : List Int) (r3 : Int) (w : World) (hs1 : Kd.V (Kd.int .u32) 56 w w.heap.size (fun k_ => P1_ k_) (.slice A1 l1.length c1) l1) (hT : TabW w) (h : dyad_trim.f k a0 l1 a2 = some (r1, r2, r3)) :
  Calls Tryd.prog 27 #[.bool a0, .slice A1 l1.length c1, .int .i64 a2] w fun e w' => ∃ v1_ : Value, e = .returned (.agg #[.bool r1, v1_, .int .i64 r3]) ∧ Kd.V (Kd.int .u32) 56 w' w.heap.size (fun k_ => (P1_ k_ ∨ w.heap.size ≤ k_)) v1_ r2 ∧ Below w.heap.size w w' := by
 have hu29 := Tryd.underlying29
 have HO1 := Aside0.mk (show Kd.V (Kd.int .u32) 56 w w.heap.size (fun k_ => (P1_ k_ ∨ w.heap.size ≤ k_)) (.slice A1 l1.length c1) l1 from Kd.V_mono hs1 (fun k_ hk => .inl hk))
 have HB := Aside0.mk (Below.refl w.heap.size w)
 have H : (dyad_trim.l0 k a0 l1 a2 (l1.length : Int)) = some (r1, r2, r3) := h
 clear h
 have HC4 := Aside0.mk H
 clear H
 go_enter Tryd.func27, Tryd.ntmps27
 go_upto_block 0 with (first | ((with_reducible refine gate_dst (N := 6) rfl ?_); refine gbox (N := 6) (cs := #[.bool false, .slice none 0 0, .int .i64 0]) (t := 29) ?_; intro gb250 hg w5 hbox hb; refine ax5 (Kd.V_below (Kd.V_elderB (kv HO1) gb250 (Nat.le_of_eq hg.symm)) hb) (below_step bel hb) hbox ((ge hg : w.heap.size ≤ gb250)) ((ge hg : w.heap.size ≤ gb250)) ?_; clear HO1; clear HB; intro HO1 HB BK250 GW250 GE250; clear hb hbox hg))
 (try simp only [Act.put, sa0, sa1, sa2])
 go_cut [7] (fun v7 wc => ∃ (kq : Nat) (x7_3 : Int), v7 = .int .i64 x7_3 ∧ Aside0 (dyad_trim.j1 kq a0 l1 a2 x7_3 = some (r1, r2, r3)) ∧ Aside0 (kq ≤ k) ∧ Aside0 (Kd.V (Kd.int .u32) 56 wc w.heap.size (fun k_ => (P1_ k_ ∨ w.heap.size ≤ k_) ∧ k_ ≠ gb250) (.slice A1 l1.length c1) l1) ∧ Aside0 (wc.heap[gb250]? = some (.cells #[.bool false, (.slice none 0 0), .int .i64 0] 29 (0, 0))) ∧ Aside0 (Below w.heap.size w wc))
 case first =>
  have H := HC4.out
  clear HC4
  have H' := Aside0.mk H
  clear H
  go_wp2
  go_loopg [7] k (fun kq v7 w' => ∃ (x7_1 : Int), v7 = .int .i64 x7_1 ∧ Aside0 (dyad_trim.l0 kq a0 l1 a2 x7_1 = some (r1, r2, r3)) ∧ Aside0 (kq ≤ k) ∧ Aside0 (Kd.V (Kd.int .u32) 56 w' w.heap.size (fun k_ => (P1_ k_ ∨ w.heap.size ≤ k_) ∧ k_ ≠ gb250) (.slice A1 l1.length c1) l1) ∧ Aside0 (w'.heap[gb250]? = some (.cells #[.bool false, (.slice none 0 0), .int .i64 0] 29 (0, 0))) ∧ Aside0 (Below w.heap.size w w'))
  case atStart => exact ⟨((l1.length : Int)), (by first | rfl | (simp; done) | (simp [*]; done)), H', ⟨Nat.le_refl _⟩, ⟨kv HO1⟩, ⟨kb BK250⟩, ⟨bes⟩⟩
  case round =>
   clear H'
   try clear c1
   try clear c2
   try clear p2
   obtain ⟨x7_1, rfl, HA, HK1, HO_1, BK250, HB⟩ := hrel
   cases gk with
   | zero => exact absurd HA.out (by simp [dyad_trim.l0])
   | succ k1 =>
    have H := HA.out
    clear HA
    simp only [dyad_trim.l0] at H
    by_cases c6 : x7_1 > 0
    rotate_left
    ·
     rw [if_neg c6] at H
     have c6b0 : decide (0 < x7_1) = false := decide_eq_false c6
     clear c6
     (first | rw [c6b0] | (simp only [i64_w, i32_w]; rw [c6b0]) | skip)
     have H' := Aside0.mk H
     clear H
     go_wp2
     go_meet
     case rel => exact ⟨_, (x7_1), (by first | rfl | (simp; done) | (simp [*]; done)), H', ⟨by have := HK1.out; first | omega | exact Nat.le_refl _⟩, ⟨kv HO_1⟩, ⟨kb BK250⟩, ⟨bes⟩⟩
    rw [if_pos c6] at H
    have c6b0 : decide (0 < x7_1) = true := decide_eq_true c6
    clear c6
    (first | rw [c6b0] | (simp only [i64_w, i32_w]; rw [c6b0]) | skip)
    obtain ⟨ji7, hji7⟩ : ∃ j_ : Int, (wrap64 (x7_1 - 1)) = j_ := ⟨_, rfl⟩
    replace H : (if 0 ≤ (ji7) then (if (ji7) < (l1.length : Int) then (if (rd l1 (ji7)) = 0 then (dyad_trim.l0 k1 a0 l1 a2 ji7) else (dyad_trim.j1 k1 a0 l1 a2 x7_1)) else (none)) else (none)) = some (r1, r2, r3) := by first | (rw [hji7] at H; exact H) | (simp only [hji7] at H ⊢; exact H)
    have hji7w : (IntKind.i64.wrap (x7_1 - 1)) = ji7 := (i64_w _).trans hji7
    by_cases c8 : 0 ≤ (ji7)
    rotate_left
    ·
     rw [if_neg c8] at H
     exact absurd H (by simp)
    rw [if_pos c8] at H
    have c8b0 : decide (0 ≤ (ji7)) = true := decide_eq_true c8
    clear c8
    by_cases c9 : (ji7) < (l1.length : Int)
    rotate_left
    ·
     rw [if_neg c9] at H
     exact absurd H (by simp)
    rw [if_pos c9] at H
    have c9b0 : decide ((ji7) < (l1.length : Int)) = true := decide_eq_true c9
    clear c9
    by_cases c10 : (rd l1 (ji7)) = 0
    ·
     rw [if_pos c10] at H
     have c10b0 : ((rd l1 (ji7)) == 0) = true := beq_iff_eq.mpr c10
     have c10b1 : ((rd l1 (ji7)) != 0) = false := bne_eq_false_iff_eq.mpr c10
     clear c10
     have H' := Aside0.mk H
     clear H
     have p251 : 0 ≤ ((ji7) : Int) := of_decide_eq_true (by first | (with_reducible assumption) | assumption)
     have q251 : (ji7) < (l1.length : Int) := of_decide_eq_true (by first | (with_reducible assumption) | assumption)
     obtain ⟨ad251, e251, hx251_0⟩ := Kd.at_int (Kd.V_reads' HO_1.out).2.2 (ji7) p251 q251
     cases e251
     replace p251 := eq_true p251
     replace q251 := eq_true q251
     go_wp2
     go_roundg k1
     case measure => have := HK1.out; omega
     case rel => exact ⟨(ji7), (by first | rfl | (simp; done) | (simp only [← hji7] <;> (first | rfl | simp)) | (simp [*]; done)), H', ⟨by have := HK1.out; omega⟩, ⟨kv HO_1⟩, ⟨kb BK250⟩, ⟨bes⟩⟩
    ·
     rw [if_neg c10] at H
     have c10b0 : ((rd l1 (ji7)) == 0) = false := beq_eq_false_iff_ne.mpr c10
     have c10b1 : ((rd l1 (ji7)) != 0) = true := bne_iff_ne.mpr c10
     have H' := Aside0.mk H
     clear H
     have p251 : 0 ≤ ((ji7) : Int) := of_decide_eq_true (by first | (with_reducible assumption) | assumption)
     have q251 : (ji7) < (l1.length : Int) := of_decide_eq_true (by first | (with_reducible assumption) | assumption)
     obtain ⟨ad251, e251, hx251_0⟩ := Kd.at_int (Kd.V_reads' HO_1.out).2.2 (ji7) p251 q251
     cases e251
     replace p251 := eq_true p251
     replace q251 := eq_true q251
     go_wp2
     go_meet
     case rel => exact ⟨_, (x7_1), (by first | rfl | (simp; done) | (simp [*]; done)), H', ⟨by have := HK1.out; first | omega | exact Nat.le_refl _⟩, ⟨kv HO_1⟩, ⟨kb BK250⟩, ⟨bes⟩⟩
 case rest =>
  clear HC4
  try clear c1
  try clear c2
  try clear p2
  try clear q2
  try clear hx2
  try clear c6
  try clear c6b0
  try clear p6
  try clear c8
  try clear c8b0
  try clear c9
  try clear c9b0
  try clear c10
  try clear c10b0
  try clear c10b1
  try clear hx251_0
  try clear p2
  try clear p251
  try clear q251
  obtain ⟨kq, x7_3, rfl, HA, HJ3, HO_1, BK250, HB⟩ := hcut
  cases kq with
  | zero => exact absurd HA.out (by simp [dyad_trim.j1])
  | succ kj3 =>
   have H := HA.out
   clear HA
   simp only [dyad_trim.j1] at H
   by_cases c11 : 0 ≤ x7_3
   rotate_left
   ·
    rw [if_neg c11] at H
    exact absurd H (by simp)

   rw [if_pos c11] at H
   have c11b0 := eq_true c11
   have c11b1 : decide (0 ≤ x7_3) = true := decide_eq_true c11
   clear c11
   by_cases c12 : x7_3 ≤ (l1.length : Int)
   rotate_left
   ·
    rw [if_neg c12] at H
    exact absurd H (by simp)
   rw [if_pos c12] at H
   have c12b0 := eq_true c12
   have c12b1 : decide (x7_3 ≤ (l1.length : Int)) = true := decide_eq_true c12
   clear c12
   obtain ⟨y252, hy252⟩ : ∃ y_ : List Int, y_ = (l1.take (x7_3 : Int).toNat) := ⟨_, rfl⟩
   replace H : (if x7_3 = 0 then (some (false, ([] : List Int), 0)) else (dyad_trim.l1 kj3 a0 y252 a2 0)) = some (r1, r2, r3) := by first | (rw [hy252]; with_reducible exact H) | (have H2_ := (Option.bind_some _ _).symm.trans H; rw [hy252]; with_reducible exact H2_) | (have H2_ := (Option.bind_some _ _).symm.trans H; with_reducible exact H2_) | with_reducible exact H | (rw [hy252]; exact H) | exact H
   have Ny252 := Aside0.mk hy252
   clear hy252
   by_cases c13 : x7_3 = 0
   ·
    rw [if_pos c13] at H
    have c13b0 : (x7_3 == 0) = true := beq_iff_eq.mpr c13
    have c13b1 : (x7_3 != 0) = false := bne_eq_false_iff_eq.mpr c13
    clear c13
    simp only [Option.some.injEq, Prod.mk.injEq] at H
    obtain ⟨rfl, rfl, rfl⟩ := H
    have q14 : (x7_3 : Int) ≤ ((l1.length : Int) : Int) := of_decide_eq_true (by first | (with_reducible assumption) | assumption)
    obtain ⟨i014, hi014, _, hsz14, _⟩ := info_parts info56
    have hroom14 : l1.length ≤ c1 := (Kd.V_reads' HO_1.out).2.1
    have hC14 : Kd.F (Kd.int .u32) _ _ A1 l1.length l1 := (Kd.V_at (base := w.heap.size) HO_1.out).2.2
    have hcut14 := cut_to (P := Tryd.prog) 27 56 .i64 Tryd.underlying27 hi014 A1 l1.length c1 x7_3 (of_decide_eq_true (by first | (with_reducible assumption) | assumption)) q14 hroom14
    have hr14 := Kd.F_take (m := (x7_3 : Int).toNat) hC14 (by omega)
    have hy14 : y252.length = (x7_3 : Int).toNat := (by rw [Ny252.out, List.length_take]; omega)
    rw [← Ny252.out] at hr14
    rw [← hy14] at hcut14
    have HO256 := Aside0.mk (show Kd.V (Kd.int .u32) 56 _ w.heap.size _ (.slice A1 y252.length c1) y252 from Kd.V_mk (by omega) hr14)
    have HC256 := Aside0.mk (show y252.length ≤ c1 from by omega)
    clear hr14 hC14 hroom14 hi014 hsz14
    have KY14 := Aside0.mk hy14
    clear hy14
    replace q14 := eq_true q14
    have hcz15_0 := bc BK250 0 rfl
    have hcz15_1 := bc BK250 1 rfl
    have hcz15_2 := bc BK250 2 rfl
    have hfz15_0 := blk_frozen BK250.out 0
    have hfz15_1 := blk_frozen BK250.out 1
    have hfz15_2 := blk_frozen BK250.out 2
    go_wp2
    refine bodyPost_ret (results_cell_row rfl _ _ gb250 29 #[.bool false, .slice none 0 0, .int .i64 0] (0, 0) _ rfl (by (with_reducible repeat (first | refine blk_drewN ?_ _ | refine blk_drew ?_ | refine blk_alloc ?_ _)); refine blk_put (cs := #[.bool false, .slice none 0 0, .int .i64 0]) ?_ 2 _ rfl; (with_reducible repeat (first | refine blk_drewN ?_ _ | refine blk_drew ?_ | refine blk_alloc ?_ _)); refine blk_put (cs := #[.bool false, .slice none 0 0, .int .i64 0]) ?_ 1 _ rfl; (with_reducible repeat (first | refine blk_drewN ?_ _ | refine blk_drew ?_ | refine blk_alloc ?_ _)); refine blk_put (cs := #[.bool false, .slice none 0 0, .int .i64 0]) ?_ 0 _ rfl; (with_reducible repeat (first | refine blk_drewN ?_ _ | refine blk_drew ?_ | refine blk_alloc ?_ _)); exact BK250.out) Tryd.underlying29 rfl (by kernel_rfl)) rfl ?_
    exact ⟨_, er, Kd.V_nil _ _ _ _ _, bes⟩
   ·
    rw [if_neg c13] at H
    have c13b0 : (x7_3 == 0) = false := beq_eq_false_iff_ne.mpr c13
    have c13b1 : (x7_3 != 0) = true := bne_iff_ne.mpr c13
    have H' := Aside0.mk H
    clear H
    have q16 : (x7_3 : Int) ≤ ((l1.length : Int) : Int) := of_decide_eq_true (by first | (with_reducible assumption) | assumption)
    obtain ⟨i016, hi016, _, hsz16, _⟩ := info_parts info56
    have hroom16 : l1.length ≤ c1 := (Kd.V_reads' HO_1.out).2.1
    have hC16 : Kd.F (Kd.int .u32) _ _ A1 l1.length l1 := (Kd.V_at (base := w.heap.size) HO_1.out).2.2
    have hcut16 := cut_to (P := Tryd.prog) 27 56 .i64 Tryd.underlying27 hi016 A1 l1.length c1 x7_3 (of_decide_eq_true (by first | (with_reducible assumption) | assumption)) q16 hroom16
    have hr16 := Kd.F_take (m := (x7_3 : Int).toNat) hC16 (by omega)
    have hy16 : y252.length = (x7_3 : Int).toNat := (by rw [Ny252.out, List.length_take]; omega)
    rw [← Ny252.out] at hr16
    rw [← hy16] at hcut16
    have HO256 := Aside0.mk (show Kd.V (Kd.int .u32) 56 _ w.heap.size _ (.slice A1 y252.length c1) y252 from Kd.V_mk (by omega) hr16)
    have HC256 := Aside0.mk (show y252.length ≤ c1 from by omega)
    clear hr16 hC16 hroom16 hi016 hsz16
    have KY16 := Aside0.mk hy16
    clear hy16
    replace q16 := eq_true q16
    go_wp2
    go_loopg [8] kj3 (fun kq v8 w' => ∃ (x8_2 : Int), v8 = .int .i64 x8_2 ∧ Aside0 (dyad_trim.l1 kq a0 y252 a2 x8_2 = some (r1, r2, r3)) ∧ Aside0 (kq ≤ kj3) ∧ Aside0 (Kd.V (Kd.int .u32) 56 w' w.heap.size (fun k_ => (P1_ k_ ∨ w.heap.size ≤ k_) ∧ k_ ≠ gb250) (.slice A1 y252.length c1) y252) ∧ Aside0 (w'.heap[gb250]? = some (.cells #[.bool false, (.slice none 0 0), .int .i64 0] 29 (0, 0))) ∧ Aside0 (Below w.heap.size w w'))
    case atStart => exact ⟨(0), (by first | rfl | (simp; done) | (simp [*]; done)), H', ⟨Nat.le_refl _⟩, ⟨kv HO256⟩, ⟨kb BK250⟩, ⟨bes⟩⟩
    case round =>
     clear H'
     try clear c1
     try clear q1
     try clear c2
     try clear p2
     try clear q2
     try clear hx2
     try clear c6
     try clear c6b0
     try clear p6
     try clear c8
     try clear c8b0
     try clear c9
     try clear c9b0
     try clear c10
     try clear c10b0
     try clear c10b1
     try clear c11
     try clear c11b0
     try clear c11b1
     try clear c12
     try clear c12b0
     try clear c12b1
     try clear c13
     try clear c13b0
     try clear c13b1
     try clear q14
     try clear q16
     try clear hcz15_0
     try clear hcz15_1
     try clear hcz15_2
     try clear hfz15_0
     try clear hfz15_1
     try clear hfz15_2
     try clear hx251_0
     try clear p2
     try clear p251
     try clear p6
     try clear q14
     try clear q16
     try clear q2
     try clear q251
     obtain ⟨x8_2, rfl, HA, HK2, HO_1, BK250, HB⟩ := hrel
     cases gk with
     | zero => exact absurd HA.out (by simp [dyad_trim.l1])
     | succ k2 =>
      have H := HA.out
      clear HA
      simp only [dyad_trim.l1] at H
      by_cases c17 : 0 ≤ x8_2
      rotate_left
      ·
       rw [if_neg c17] at H
       exact absurd H (by simp)
      rw [if_pos c17] at H
      have c17b0 : decide (0 ≤ x8_2) = true := decide_eq_true c17
      clear c17
      by_cases c18 : x8_2 < (y252.length : Int)
      rotate_left
      ·
       rw [if_neg c18] at H
       exact absurd H (by simp)
      rw [if_pos c18] at H
      have c18b0 : decide (x8_2 < (y252.length : Int)) = true := decide_eq_true c18
      clear c18
      by_cases c19 : (rd y252 x8_2) = 0
      ·
       rw [if_pos c19] at H
       have c19b0 : ((rd y252 x8_2) == 0) = true := beq_iff_eq.mpr c19
       have c19b1 : ((rd y252 x8_2) != 0) = false := bne_eq_false_iff_eq.mpr c19
       clear c19
       have H' := Aside0.mk H
       clear H
       have p257 : 0 ≤ (x8_2 : Int) := of_decide_eq_true (by first | (with_reducible assumption) | assumption)
       have q257 : x8_2 < (y252.length : Int) := of_decide_eq_true (by first | (with_reducible assumption) | assumption)
       obtain ⟨ad257, e257, hx257_0⟩ := Kd.at_int (Kd.V_reads' HO_1.out).2.2 x8_2 p257 q257
       cases e257
       replace p257 := eq_true p257
       replace q257 := eq_true q257
       go_wp2
       go_roundg k2
       case measure => have := HJ3.out; have := HK2.out; omega
       case rel => exact ⟨(wrap64 (x8_2 + 1)), (by first | rfl | (simp; done) | (simp [*]; done)), H', ⟨by have := HJ3.out; have := HK2.out; omega⟩, ⟨kv HO_1⟩, ⟨kb BK250⟩, ⟨bes⟩⟩
      ·
       rw [if_neg c19] at H
       have c19b0 : ((rd y252 x8_2) == 0) = false := beq_eq_false_iff_ne.mpr c19
       have c19b1 : ((rd y252 x8_2) != 0) = true := bne_iff_ne.mpr c19
       have c20b0 := eq_true (of_decide_eq_true (by first | (with_reducible assumption) | assumption) : 0 ≤ x8_2)
       by_cases c21 : x8_2 ≤ (y252.length : Int)
       rotate_left
       ·
        rw [if_neg c21] at H
        exact absurd H (by simp)
       rw [if_pos c21] at H
       have c21b0 := eq_true c21
       have c21b1 : decide (x8_2 ≤ (y252.length : Int)) = true := decide_eq_true c21
       clear c21
       obtain ⟨y258, hy258⟩ : ∃ y_ : List Int, y_ = (y252.drop (x8_2 : Int).toNat) := ⟨_, rfl⟩
       replace H : (if 0 < (y258.length : Int) then ((bits_TrailingZeros32.f (rd y258 0)).bind fun t264 => (if t264 > 0 then ((dyad_down.f k2 y258 t264).bind fun t265 => (some (a0, t265, wrap64 ((wrap64 (a2 + (wrap64 (32 * x8_2)))) + t264)))) else (some (a0, y258, wrap64 (a2 + (wrap64 (32 * x8_2))))))) else (none)) = some (r1, r2, r3) := by first | (rw [hy258]; with_reducible exact H) | (have H2_ := (Option.bind_some _ _).symm.trans H; rw [hy258]; with_reducible exact H2_) | (have H2_ := (Option.bind_some _ _).symm.trans H; with_reducible exact H2_) | with_reducible exact H | (rw [hy258]; exact H) | exact H
       have Ny258 := Aside0.mk hy258
       clear hy258
       by_cases c22 : 0 < (y258.length : Int)
       rotate_left
       ·
        rw [if_neg c22] at H
        exact absurd H (by simp)
       rw [if_pos c22] at H
       have c22b0 : decide (0 < (y258.length : Int)) = true := decide_eq_true c22
       have c22b1 : decide (0 < y258.length) = true := decide_eq_true (by omega)
       clear c22
       obtain ⟨t264, A230, H⟩ := Option.bind_eq_some_iff.mp H
       (try dsimp -simprocs only at H)
       have A23 := Aside0.mk A230
       clear A230
       by_cases c24 : t264 > 0
       ·
        rw [if_pos c24] at H
        have c24b0 : decide (0 < t264) = true := decide_eq_true c24
        clear c24
        obtain ⟨t265, A250, H⟩ := Option.bind_eq_some_iff.mp H
        (try dsimp -simprocs only at H)
        have A25 := Aside0.mk A250
        clear A250
        simp only [Option.some.injEq, Prod.mk.injEq] at H
        obtain ⟨rfl, rfl, rfl⟩ := H
        have p257 : 0 ≤ (x8_2 : Int) := of_decide_eq_true (by first | (with_reducible assumption) | assumption)
        have q257 : x8_2 < (y252.length : Int) := of_decide_eq_true (by first | (with_reducible assumption) | assumption)
        obtain ⟨ad257, e257, hx257_0⟩ := Kd.at_int (Kd.V_reads' HO_1.out).2.2 x8_2 p257 q257
        cases e257
        replace p257 := eq_true p257
        replace q257 := eq_true q257
        have q26 : (x8_2 : Int) ≤ ((y252.length : Int) : Int) := of_decide_eq_true (by first | (with_reducible assumption) | assumption)
        obtain ⟨i026, hi026, _, hsz26, _⟩ := info_parts info56
        have hroom26 : y252.length ≤ c1 := (Kd.V_reads' HO_1.out).2.1
        have hC26 : Kd.F (Kd.int .u32) _ _ (some ad257) y252.length y252 := (Kd.V_at (base := w.heap.size) HO_1.out).2.2
        have q026 : (0 : Int) ≤ (x8_2 : Int) := of_decide_eq_true (by first | (with_reducible assumption) | assumption)
        have hcut26 := cut_from (P := Tryd.prog) 27 56 .i64 Tryd.underlying27 hi026 1 hsz26 (some ad257) y252.length c1 x8_2 q026 q26
        have hr26 := Kd.F_cut (m := (x8_2 : Int).toNat) (c := c1) hC26 (by omega) hroom26
        obtain ⟨A26, hA26⟩ : ∃ Az_, Az_ = (if c1 = (x8_2 : Int).toNat then (some ad257) else ((some ad257) : Option Addr).map (·.add ((x8_2 : Int).toNat * 1))) := ⟨_, rfl⟩
        obtain ⟨c26, hc26⟩ : ∃ cz_, cz_ = c1 - (x8_2 : Int).toNat := ⟨_, rfl⟩
        have hy26 : y258.length = y252.length - (x8_2 : Int).toNat := (by rw [Ny258.out, List.length_drop] <;> omega)
        rw [show (y252).drop (x8_2 : Int).toNat = y258 from Ny258.out.symm] at hr26
        replace hr26 : Kd.F (Kd.int .u32) _ _ A26 y258.length y258 := (by rw [hA26]; exact hr26)
        rw [← hy26, ← hA26, ← hc26] at hcut26
        have HO262 := Aside0.mk (show Kd.V (Kd.int .u32) 56 _ w.heap.size _ (.slice A26 y258.length c26) y258 from Kd.V_mk (by rw [hy26, hc26]; exact Nat.sub_le_sub_right hroom26 _) hr26)
        have HC262 := Aside0.mk (show y258.length ≤ c26 from by rw [hy26, hc26]; exact Nat.sub_le_sub_right hroom26 _)
        clear hr26 hC26 hroom26 hi026 hsz26 hc26
        have KY26 := Aside0.mk hy26
        have KA26 := Aside0.mk hA26
        clear hy26 hA26
        replace q26 := eq_true q26
        have p263 : 0 ≤ (0 : Int) := (by omega)
        have q263 : 0 < (y258.length : Int) := of_decide_eq_true (by first | (with_reducible assumption) | assumption)
        obtain ⟨ad263, e263, hx263_0⟩ := Kd.at_int (Kd.V_reads' HO262.out).2.2 0 p263 q263
        cases e263
        have qi263 : (0 < y258.length) = True := eq_true (by omega)
        (try rw [show ((0 : Int)).toNat = 0 from rfl] at hx263_0)
        (try rw [Addr.add_zero'] at hx263_0)
        replace p263 := eq_true p263
        replace q263 := eq_true q263
        go_wp2_with (first | ((with_reducible refine gate_callee (f := 42) rfl ?_); refine goesL_ (some 47) rfl rfl Tryd.func42 (by kernel_rfl) rfl #[.int .u32 (rd y258 0)] rfl ga ?_; (with_reducible refine (bits_TrailingZeros32.calls (rd y258 0) t264 _ ?side1 A23.out).mono ?_); (case side1 => first | exact hT | exact TabW.drewN hT _ | exact TabW.drew hT | exact TabW.below hT bes); rintro e w' ⟨rfl, ⟨nd, rfl⟩⟩; refine ⟨_, rfl, ?_⟩; (try (rw [drewN_self wr]; generalize hq_ : World.drewN wr _ = wr; have n0_ : Aside0 (Kd.V (Kd.int .u32) 56 wr w.heap.size (fun k_ => (P1_ k_ ∨ w.heap.size ≤ k_) ∧ k_ ≠ gb250) (.slice (some ad263) y258.length c26) y258) := ⟨by rw [← hq_]; exact (kv HO262)⟩; have n1_ : Aside0 (Kd.V (Kd.int .u32) 56 wr w.heap.size (fun k_ => (P1_ k_ ∨ w.heap.size ≤ k_) ∧ k_ ≠ gb250) (.slice (some ad257) y252.length c1) y252) := ⟨by rw [← hq_]; exact (kv HO_1)⟩; have n2_ : Aside0 (wr.heap[gb250]? = some (.cells #[.bool false, .slice none 0 0, .int .i64 0] 29 (0, 0))) := ⟨by rw [← hq_]; exact (kb BK250)⟩; have n3_ : Aside0 (Below w.heap.size w wr) := ⟨by rw [← hq_]; exact bes⟩; clear HO262 HO_1 BK250 HB hq_; have HO262 := n0_; have HO_1 := n1_; have BK250 := n2_; have HB := n3_; clear n0_ n1_ n2_ n3_))) | ((with_reducible refine gate_callee (f := 43) rfl ?_); refine goesL_ (some 52) rfl rfl Tryd.func43 (by kernel_rfl) rfl #[.slice (some ad263) y258.length c26, .int .i64 t264] rfl ga ?_; (with_reducible refine (dyad_down.calls k2 _ _ y258 t264 t265 _ ?side1 ?side2 A25.out).mono ?_); (case side1 => exact kvs HO262); (case side2 => exact (Kd.V_reads' HO262.out).2.1); rintro e w27 ⟨v266, rfl, ho0, hb⟩; refine ⟨_, rfl, ?_⟩; refine ax5 (Kd.V_below (kv HO_1) hb) (Kd.V_below (kv HO262) hb) (Kd.V_lower (Kd.V_mono (ok' := fun k_ => (P1_ k_ ∨ w.heap.size ≤ k_) ∧ k_ ≠ gb250) ho0 (fun k_ hk_ => ⟨(.inr (Nat.le_trans (below_size bes) hk_)), (fb BK250 k_ hk_)⟩)) (below_size bes)) (bb BK250 hb) (below_step bes hb) ?_; clear HO_1; clear HO262; clear BK250; clear HB; intro HO_1 HO262 HO267 BK250 HB; (try clear hb); (try clear ho0); obtain ⟨Ao28, co28, eo28⟩ := Kd.V_slice HO267.out; subst eo28; have hcz29_0 := bc BK250 0 rfl; have hcz29_1 := bc BK250 1 rfl; have hcz29_2 := bc BK250 2 rfl; have hfz29_0 := blk_frozen BK250.out 0; have hfz29_1 := blk_frozen BK250.out 1; have hfz29_2 := blk_frozen BK250.out 2))
        refine bodyPost_ret (results_cell_row rfl _ _ gb250 29 #[.bool a0, .slice Ao28 t265.length co28, .int .i64 (wrap64 ((wrap64 (a2 + (wrap64 (32 * x8_2)))) + t264))] (0, 0) _ rfl (by (with_reducible repeat (first | refine blk_drewN ?_ _ | refine blk_drew ?_ | refine blk_alloc ?_ _)); refine blk_put (cs := #[.bool a0, .slice Ao28 t265.length co28, .int .i64 0]) ?_ 2 _ rfl; (with_reducible repeat (first | refine blk_drewN ?_ _ | refine blk_drew ?_ | refine blk_alloc ?_ _)); refine blk_put (cs := #[.bool a0, .slice none 0 0, .int .i64 0]) ?_ 1 _ rfl; (with_reducible repeat (first | refine blk_drewN ?_ _ | refine blk_drew ?_ | refine blk_alloc ?_ _)); refine blk_put (cs := #[.bool false, .slice none 0 0, .int .i64 0]) ?_ 0 _ rfl; (with_reducible repeat (first | refine blk_drewN ?_ _ | refine blk_drew ?_ | refine blk_alloc ?_ _)); exact BK250.out) Tryd.underlying29 rfl (by kernel_rfl)) rfl ?_
        exact ⟨_, er, by (with_reducible repeat (first | apply Kd.V_alloc | apply Kd.V_drewN | apply Kd.V_drew)); exact Kd.V_mono (Kd.V_far (p := ⟨gb250, 2, none⟩) (Kd.V_far (p := ⟨gb250, 1, none⟩) (Kd.V_far (p := ⟨gb250, 0, none⟩) (Kd.V_mono HO267.out (fun k_ hk => (⟨hk, hk.2⟩ : _ ∧ k_ ≠ gb250))) (fun _ hk => hk.2) (.bool a0)) (fun _ hk => hk.2) (.slice Ao28 t265.length co28)) (fun _ hk => hk.2) (.int .i64 (wrap64 ((wrap64 (a2 + (wrap64 (32 * x8_2)))) + t264)))) (fun _ hk => hk.1.1), bes⟩
       ·
        rw [if_neg c24] at H
        have c24b0 : decide (0 < t264) = false := decide_eq_false c24
        clear c24
        simp only [Option.some.injEq, Prod.mk.injEq] at H
        obtain ⟨rfl, rfl, rfl⟩ := H
        have p257 : 0 ≤ (x8_2 : Int) := of_decide_eq_true (by first | (with_reducible assumption) | assumption)
        have q257 : x8_2 < (y252.length : Int) := of_decide_eq_true (by first | (with_reducible assumption) | assumption)
        obtain ⟨ad257, e257, hx257_0⟩ := Kd.at_int (Kd.V_reads' HO_1.out).2.2 x8_2 p257 q257
        cases e257
        replace p257 := eq_true p257
        replace q257 := eq_true q257
        have q30 : (x8_2 : Int) ≤ ((y252.length : Int) : Int) := of_decide_eq_true (by first | (with_reducible assumption) | assumption)
        obtain ⟨i030, hi030, _, hsz30, _⟩ := info_parts info56
        have hroom30 : y252.length ≤ c1 := (Kd.V_reads' HO_1.out).2.1
        have hC30 : Kd.F (Kd.int .u32) _ _ (some ad257) y252.length y252 := (Kd.V_at (base := w.heap.size) HO_1.out).2.2
        have q030 : (0 : Int) ≤ (x8_2 : Int) := of_decide_eq_true (by first | (with_reducible assumption) | assumption)
        have hcut30 := cut_from (P := Tryd.prog) 27 56 .i64 Tryd.underlying27 hi030 1 hsz30 (some ad257) y252.length c1 x8_2 q030 q30
        have hr30 := Kd.F_cut (m := (x8_2 : Int).toNat) (c := c1) hC30 (by omega) hroom30
        obtain ⟨A30, hA30⟩ : ∃ Az_, Az_ = (if c1 = (x8_2 : Int).toNat then (some ad257) else ((some ad257) : Option Addr).map (·.add ((x8_2 : Int).toNat * 1))) := ⟨_, rfl⟩
        obtain ⟨c30, hc30⟩ : ∃ cz_, cz_ = c1 - (x8_2 : Int).toNat := ⟨_, rfl⟩
        have hy30 : y258.length = y252.length - (x8_2 : Int).toNat := (by rw [Ny258.out, List.length_drop] <;> omega)
        rw [show (y252).drop (x8_2 : Int).toNat = y258 from Ny258.out.symm] at hr30
        replace hr30 : Kd.F (Kd.int .u32) _ _ A30 y258.length y258 := (by rw [hA30]; exact hr30)
        rw [← hy30, ← hA30, ← hc30] at hcut30
        have HO262 := Aside0.mk (show Kd.V (Kd.int .u32) 56 _ w.heap.size _ (.slice A30 y258.length c30) y258 from Kd.V_mk (by rw [hy30, hc30]; exact Nat.sub_le_sub_right hroom30 _) hr30)
        have HC262 := Aside0.mk (show y258.length ≤ c30 from by rw [hy30, hc30]; exact Nat.sub_le_sub_right hroom30 _)
        clear hr30 hC30 hroom30 hi030 hsz30 hc30
        have KY30 := Aside0.mk hy30
        have KA30 := Aside0.mk hA30
        clear hy30 hA30
        replace q30 := eq_true q30
        have p263 : 0 ≤ (0 : Int) := (by omega)
        have q263 : 0 < (y258.length : Int) := of_decide_eq_true (by first | (with_reducible assumption) | assumption)
        obtain ⟨ad263, e263, hx263_0⟩ := Kd.at_int (Kd.V_reads' HO262.out).2.2 0 p263 q263
        cases e263
        have qi263 : (0 < y258.length) = True := eq_true (by omega)
        (try rw [show ((0 : Int)).toNat = 0 from rfl] at hx263_0)
        (try rw [Addr.add_zero'] at hx263_0)
        replace p263 := eq_true p263
        replace q263 := eq_true q263
        go_wp2_with (first | ((with_reducible refine gate_callee (f := 42) rfl ?_); refine goesL_ (some 47) rfl rfl Tryd.func42 (by kernel_rfl) rfl #[.int .u32 (rd y258 0)] rfl ga ?_; (with_reducible refine (bits_TrailingZeros32.calls (rd y258 0) t264 _ ?side1 A23.out).mono ?_); (case side1 => first | exact hT | exact TabW.drewN hT _ | exact TabW.drew hT | exact TabW.below hT bes); rintro e w' ⟨rfl, ⟨nd, rfl⟩⟩; refine ⟨_, rfl, ?_⟩; (try (rw [drewN_self wr]; generalize hq_ : World.drewN wr _ = wr; have n0_ : Aside0 (Kd.V (Kd.int .u32) 56 wr w.heap.size (fun k_ => (P1_ k_ ∨ w.heap.size ≤ k_) ∧ k_ ≠ gb250) (.slice (some ad263) y258.length c30) y258) := ⟨by rw [← hq_]; exact (kv HO262)⟩; have n1_ : Aside0 (Kd.V (Kd.int .u32) 56 wr w.heap.size (fun k_ => (P1_ k_ ∨ w.heap.size ≤ k_) ∧ k_ ≠ gb250) (.slice (some ad257) y252.length c1) y252) := ⟨by rw [← hq_]; exact (kv HO_1)⟩; have n2_ : Aside0 (wr.heap[gb250]? = some (.cells #[.bool false, .slice none 0 0, .int .i64 0] 29 (0, 0))) := ⟨by rw [← hq_]; exact (kb BK250)⟩; have n3_ : Aside0 (Below w.heap.size w wr) := ⟨by rw [← hq_]; exact bes⟩; clear HO262 HO_1 BK250 HB hq_; have HO262 := n0_; have HO_1 := n1_; have BK250 := n2_; have HB := n3_; clear n0_ n1_ n2_ n3_)); have hcz31_0 := bc BK250 0 rfl; have hcz31_1 := bc BK250 1 rfl; have hcz31_2 := bc BK250 2 rfl; have hfz31_0 := blk_frozen BK250.out 0; have hfz31_1 := blk_frozen BK250.out 1; have hfz31_2 := blk_frozen BK250.out 2))
        refine bodyPost_ret (results_cell_row rfl _ _ gb250 29 #[.bool a0, .slice (some ad263) y258.length c30, .int .i64 (wrap64 (a2 + (wrap64 (32 * x8_2))))] (0, 0) _ rfl (by (with_reducible repeat (first | refine blk_drewN ?_ _ | refine blk_drew ?_ | refine blk_alloc ?_ _)); refine blk_put (cs := #[.bool a0, .slice (some ad263) y258.length c30, .int .i64 0]) ?_ 2 _ rfl; (with_reducible repeat (first | refine blk_drewN ?_ _ | refine blk_drew ?_ | refine blk_alloc ?_ _)); refine blk_put (cs := #[.bool a0, .slice none 0 0, .int .i64 0]) ?_ 1 _ rfl; (with_reducible repeat (first | refine blk_drewN ?_ _ | refine blk_drew ?_ | refine blk_alloc ?_ _)); refine blk_put (cs := #[.bool false, .slice none 0 0, .int .i64 0]) ?_ 0 _ rfl; (with_reducible repeat (first | refine blk_drewN ?_ _ | refine blk_drew ?_ | refine blk_alloc ?_ _)); exact BK250.out) Tryd.underlying29 rfl (by kernel_rfl)) rfl ?_
        exact ⟨_, er, by (with_reducible repeat (first | apply Kd.V_alloc | apply Kd.V_drewN | apply Kd.V_drew)); exact Kd.V_mono (Kd.V_far (p := ⟨gb250, 2, none⟩) (Kd.V_far (p := ⟨gb250, 1, none⟩) (Kd.V_far (p := ⟨gb250, 0, none⟩) (Kd.V_mono HO262.out (fun k_ hk => (⟨hk, hk.2⟩ : _ ∧ k_ ≠ gb250))) (fun _ hk => hk.2) (.bool a0)) (fun _ hk => hk.2) (.slice (some ad263) y258.length c30)) (fun _ hk => hk.2) (.int .i64 (wrap64 (a2 + (wrap64 (32 * x8_2)))))) (fun _ hk => hk.1.1), bes⟩
/-! ### dyad_Of: function 7 -/
def dyad_Of.f (k : Nat) (a0 : Int) : Option (Bool × List Int × Int × Bool) := (word_Finite.f a0).bind fun t269 => (if t269 = true then ((word_Parts.f k a0).bind fun bt270 => ((word_Neg.f a0).bind fun t272 => ((dyad_trim.f k t272 (([(bt270.1) % 4294967296, (bt270.1 / 4294967296) % 4294967296] : List Int)) bt270.2).bind fun bt276 => (some (bt276.1, bt276.2.1, bt276.2.2, true))))) else (some (false, ([] : List Int), 0, false)))
theorem dyad_Of.mono : ∀ a0 k, LeO (dyad_Of.f k a0) (dyad_Of.f (k + 1) a0) := by
 intro a0 k
 unfold dyad_Of.f
 repeat' with_reducible first | apply dyad_trim.mono | apply word_Parts.mono | exact LeO.refl _ | exact LeO.none _ | refine LeO.ite ?_ ?_ | refine LeO.bind ?_ (fun _ => ?_)
set_option maxHeartbeats 8000000 in
set_option maxRecDepth 100000 in
theorem dyad_Of.calls (k : Nat) (a0 : Int) (r1 : Bool) (r2 : List Int) (r3 : Int) (r4 : Bool) (w : World) (hT : TabW w) (h : dyad_Of.f k a0 = some (r1, r2, r3, r4)) :
  Calls Tryd.prog 7 #[.int .u64 a0] w fun e w' => ∃ v1_ : Value, e = .returned (.tuple #[.agg #[.bool r1, v1_, .int .i64 r3], .bool r4]) ∧ Kd.V (Kd.int .u32) 56 w' w.heap.size (fun k_ => (w.heap.size ≤ k_)) v1_ r2 ∧ Below w.heap.size w w' := by
 have hu29 := Tryd.underlying29
 have HB := Aside0.mk (Below.refl w.heap.size w)
 have H : ((word_Finite.f a0).bind fun t269 => (if t269 = true then ((word_Parts.f k a0).bind fun bt270 => ((word_Neg.f a0).bind fun t272 => ((dyad_trim.f k t272 (([(bt270.1) % 4294967296, (bt270.1 / 4294967296) % 4294967296] : List Int)) bt270.2).bind fun bt276 => (some (bt276.1, bt276.2.1, bt276.2.2, true))))) else (some (false, ([] : List Int), 0, false)))) = some (r1, r2, r3, r4) := h
 clear h
 obtain ⟨t269, A20, H⟩ := Option.bind_eq_some_iff.mp H
 (try dsimp -simprocs only at H)
 have A2 := Aside0.mk A20
 clear A20
 by_cases c3 : t269 = true
 rotate_left
 ·
  replace c3 := Bool.eq_false_iff.mpr c3
  subst c3
  rw [if_neg (show ¬ (false = true) by decide)] at H
  simp only [Option.some.injEq, Prod.mk.injEq] at H
  obtain ⟨rfl, rfl, rfl, rfl⟩ := H
  go_enter Tryd.func7, Tryd.ntmps7
  go_wp2_with (first | ((with_reducible refine gate_dst (N := 2) rfl ?_); refine gbox (N := 2) (cs := #[.bool false, .slice none 0 0, .int .i64 0]) (t := 29) ?_; intro gb268 hg w14 hbox hb; refine ax4 (below_step bel hb) hbox ((ge hg : w.heap.size ≤ gb268)) ((ge hg : w.heap.size ≤ gb268)) ?_; clear HB; intro HB BK268 GW268 GE268; clear hb hbox hg) | ((with_reducible refine gate_callee (f := 25) rfl ?_); refine goesL_ (some 7) rfl rfl Tryd.func25 (by kernel_rfl) rfl #[.int .u64 a0] rfl ga ?_; (with_reducible refine (word_Finite.calls a0 false _ A2.out).mono ?_); rintro e w' ⟨rfl, ⟨nd, rfl⟩⟩; refine ⟨_, rfl, ?_⟩; (try (rw [drewN_self w14]; generalize hq_ : World.drewN w14 _ = w14; have n0_ : Aside0 (w14.heap[gb268]? = some (.cells #[.bool false, .slice none 0 0, .int .i64 0] 29 (0, 0))) := ⟨by rw [← hq_]; exact (kb BK268)⟩; have n1_ : Aside0 (Below w.heap.size w w14) := ⟨by rw [← hq_]; exact bes⟩; clear BK268 HB hq_; have BK268 := n0_; have HB := n1_; clear n0_ n1_)); have hcz15_0 := bc BK268 0 rfl; have hcz15_1 := bc BK268 1 rfl; have hcz15_2 := bc BK268 2 rfl; have hfz15_0 := blk_frozen BK268.out 0; have hfz15_1 := blk_frozen BK268.out 1; have hfz15_2 := blk_frozen BK268.out 2))
  refine bodyPost_ret (results_ct rfl _ _ gb268 29 #[.bool false, .slice none 0 0, .int .i64 0] (0, 0) _ rfl (by (with_reducible repeat (first | refine blk_drewN ?_ _ | refine blk_drew ?_ | refine blk_alloc ?_ _)); refine blk_put (cs := #[.bool false, .slice none 0 0, .int .i64 0]) ?_ 2 _ rfl; (with_reducible repeat (first | refine blk_drewN ?_ _ | refine blk_drew ?_ | refine blk_alloc ?_ _)); refine blk_put (cs := #[.bool false, .slice none 0 0, .int .i64 0]) ?_ 1 _ rfl; (with_reducible repeat (first | refine blk_drewN ?_ _ | refine blk_drew ?_ | refine blk_alloc ?_ _)); refine blk_put (cs := #[.bool false, .slice none 0 0, .int .i64 0]) ?_ 0 _ rfl; (with_reducible repeat (first | refine blk_drewN ?_ _ | refine blk_drew ?_ | refine blk_alloc ?_ _)); exact BK268.out) Tryd.underlying29 rfl (by kernel_rfl)) rfl ?_
  exact ⟨_, er, Kd.V_nil _ _ _ _ _, bes⟩

 subst c3
 rw [if_pos rfl] at H
 obtain ⟨⟨t270, t271⟩, A40, H⟩ := Option.bind_eq_some_iff.mp H
 (try dsimp -simprocs only at H)
 have A4 := Aside0.mk A40
 clear A40
 obtain ⟨t272, A50, H⟩ := Option.bind_eq_some_iff.mp H
 (try dsimp -simprocs only at H)
 have A5 := Aside0.mk A50
 clear A50
 obtain ⟨y273, hy273⟩ : ∃ y_ : List Int, y_ = (([(t270) % 4294967296, (t270 / 4294967296) % 4294967296] : List Int)) := ⟨_, rfl⟩
 replace H : ((dyad_trim.f k t272 y273 t271).bind fun bt276 => (some (bt276.1, bt276.2.1, bt276.2.2, true))) = some (r1, r2, r3, r4) := by first | (rw [hy273]; with_reducible exact H) | (have H2_ := (Option.bind_some _ _).symm.trans H; rw [hy273]; with_reducible exact H2_) | (have H2_ := (Option.bind_some _ _).symm.trans H; with_reducible exact H2_) | with_reducible exact H | (rw [hy273]; exact H) | exact H
 have Ny273 := Aside0.mk hy273
 clear hy273
 obtain ⟨⟨t276, t277, t280⟩, A60, H⟩ := Option.bind_eq_some_iff.mp H
 (try dsimp -simprocs only at H)
 have A6 := Aside0.mk A60
 clear A60
 simp only [Option.some.injEq, Prod.mk.injEq] at H
 obtain ⟨rfl, rfl, rfl, rfl⟩ := H
 go_enter Tryd.func7, Tryd.ntmps7
 go_wp2_with (first | ((with_reducible refine gate_dst (N := 2) rfl ?_); refine gbox (N := 2) (cs := #[.bool false, .slice none 0 0, .int .i64 0]) (t := 29) ?_; intro gb268 hg w7 hbox hb; refine ax4 (below_step bel hb) hbox ((ge hg : w.heap.size ≤ gb268)) ((ge hg : w.heap.size ≤ gb268)) ?_; clear HB; intro HB BK268 GW268 GE268; clear hb hbox hg) | ((with_reducible refine gate_callee (f := 25) rfl ?_); refine goesL_ (some 7) rfl rfl Tryd.func25 (by kernel_rfl) rfl #[.int .u64 a0] rfl ga ?_; (with_reducible refine (word_Finite.calls a0 true _ A2.out).mono ?_); rintro e w' ⟨rfl, ⟨nd, rfl⟩⟩; refine ⟨_, rfl, ?_⟩; (try (rw [drewN_self w7]; generalize hq_ : World.drewN w7 _ = w7; have n0_ : Aside0 (w7.heap[gb268]? = some (.cells #[.bool false, .slice none 0 0, .int .i64 0] 29 (0, 0))) := ⟨by rw [← hq_]; exact (kb BK268)⟩; have n1_ : Aside0 (Below w.heap.size w w7) := ⟨by rw [← hq_]; exact bes⟩; clear BK268 HB hq_; have BK268 := n0_; have HB := n1_; clear n0_ n1_))) | ((with_reducible refine gate_callee (f := 26) rfl ?_); refine goesL_ (some 12) rfl rfl Tryd.func26 (by kernel_rfl) rfl #[.int .u64 a0] rfl ga ?_; (with_reducible refine (word_Parts.calls k a0 t270 t271 _ A4.out).mono ?_); rintro e w' ⟨rfl, ⟨nd, rfl⟩⟩; refine ⟨_, rfl, ?_⟩; (try (rw [drewN_self w7]; generalize hq_ : World.drewN w7 _ = w7; have n0_ : Aside0 (w7.heap[gb268]? = some (.cells #[.bool false, .slice none 0 0, .int .i64 0] 29 (0, 0))) := ⟨by rw [← hq_]; exact (kb BK268)⟩; have n1_ : Aside0 (Below w.heap.size w w7) := ⟨by rw [← hq_]; exact bes⟩; clear BK268 HB hq_; have BK268 := n0_; have HB := n1_; clear n0_ n1_))) | ((with_reducible refine gate_callee (f := 28) rfl ?_); refine goesL_ (some 16) rfl rfl Tryd.func28 (by kernel_rfl) rfl #[.int .u64 a0] rfl ga ?_; (with_reducible refine (word_Neg.calls a0 t272 _ A5.out).mono ?_); rintro e w' ⟨rfl, ⟨nd, rfl⟩⟩; refine ⟨_, rfl, ?_⟩; (try (rw [drewN_self w7]; generalize hq_ : World.drewN w7 _ = w7; have n0_ : Aside0 (w7.heap[gb268]? = some (.cells #[.bool false, .slice none 0 0, .int .i64 0] 29 (0, 0))) := ⟨by rw [← hq_]; exact (kb BK268)⟩; have n1_ : Aside0 (Below w.heap.size w w7) := ⟨by rw [← hq_]; exact bes⟩; clear BK268 HB hq_; have BK268 := n0_; have HB := n1_; clear n0_ n1_))) | ((with_reducible refine gate_dst (N := 22) rfl ?_); refine Kd.R_lit (Kd.int .u32) _ 56 ?hg (N := 22) ?hd (xs := ([(t270) % 4294967296, (t270 / 4294967296) % 4294967296] : List Int)) (inner := [.int .u32 ((t270) % 4294967296), .int .u32 ((t270 / 4294967296) % 4294967296)]) (ok := fun _ => True) (okp := fun _ => True) ?hr ?hp (fun _ hk => hk) trivial (Below.refl _ _) (Nat.le_refl _) (by simp) ?_; (case hd => rfl); (case hg => rfl); (case hr => first | (go_simp; done) | (go_simp; rfl)); (case hp => exact (Reps.one (show Kd.M (Kd.int .u32) _ _ _ ((t270) % 4294967296) [.int .u32 ((t270) % 4294967296)] from rfl) (Reps.one (show Kd.M (Kd.int .u32) _ _ _ ((t270 / 4294967296) % 4294967296) [.int .u32 ((t270 / 4294967296) % 4294967296)] from rfl) (Reps.none _ _)))); intro v274 w8 ho9 hb hg_ hnew_; clear hg_ hnew_; (first | rw [← Ny273.out] at ho9 | (simp only [Int.reduceToNat] at ho9; rw [← Ny273.out] at ho9)); refine ax3 (Kd.R_lower (Kd.R_newM (M := fun k_ => (w.heap.size ≤ k_)) ho9 (below_size bes) (fun k_ h_ => h_)) (below_size bes)) (bb BK268 hb) (below_step bes hb) ?_; clear BK268; clear HB; intro HO275 BK268 HB; clear hb ho9; obtain ⟨Ao10, co10, eo10⟩ := Kd.R_slice HO275.out; subst eo10) | ((with_reducible refine gate_callee (f := 27) rfl ?_); refine goesL_ (some 24) rfl rfl Tryd.func27 (by kernel_rfl) rfl #[.bool t272, .slice Ao10 y273.length co10, .int .i64 t271] rfl ga ?_; (with_reducible refine (dyad_trim.calls k t272 (fun k_ => some k_ = (.slice Ao10 y273.length co10 : Value).ownBlock) _ _ y273 t271 t276 t277 t280 _ ?side1 ?side2 A6.out).mono ?_); (case side1 => exact Kd.R_V (Kd.R_tight rfl (Kd.R_types (HO275.out) BK268.out (by decide)))); (case side2 => first | exact hT | exact TabW.drewN hT _ | exact TabW.drew hT | exact TabW.below hT bes); rintro e w11 ⟨v278, rfl, ho0, hb⟩; refine ⟨_, rfl, ?_⟩; refine ax4 (Kd.R_below (kr HO275) hb) (Kd.V_lower (Kd.V_mono (ok' := fun k_ => (w.heap.size ≤ k_) ∧ k_ ≠ gb268) ho0 (fun k_ hk_ => ⟨Or.elim hk_ (fun hs_ => ((Kd.R_types (HO275.out) BK268.out (by decide)).1 k_ hs_.symm).1.1) (fun hn_ => (Nat.le_trans (below_size bes) hn_)), Or.elim hk_ (fun hs_ => ((Kd.R_types (HO275.out) BK268.out (by decide)).1 k_ hs_.symm).2) (fun hn_ => (fb BK268 k_ hn_))⟩)) (below_size bes)) (bb BK268 hb) (below_step bes hb) ?_; clear HO275; clear BK268; clear HB; intro HO275 HO279 BK268 HB; (try clear hb); (try clear ho0); have hcz12_0 := bc BK268 0 rfl; have hcz12_1 := bc BK268 1 rfl; have hcz12_2 := bc BK268 2 rfl; have hfz12_0 := blk_frozen BK268.out 0; have hfz12_1 := blk_frozen BK268.out 1; have hfz12_2 := blk_frozen BK268.out 2; obtain ⟨Ao13, co13, eo13⟩ := Kd.V_slice HO279.out; subst eo13))
 refine bodyPost_ret (results_ct rfl _ _ gb268 29 #[.bool t276, .slice Ao13 t277.length co13, .int .i64 t280] (0, 0) _ rfl (by (with_reducible repeat (first | refine blk_drewN ?_ _ | refine blk_drew ?_ | refine blk_alloc ?_ _)); refine blk_put (cs := #[.bool t276, .slice Ao13 t277.length co13, .int .i64 0]) ?_ 2 _ rfl; (with_reducible repeat (first | refine blk_drewN ?_ _ | refine blk_drew ?_ | refine blk_alloc ?_ _)); refine blk_put (cs := #[.bool t276, .slice none 0 0, .int .i64 0]) ?_ 1 _ rfl; (with_reducible repeat (first | refine blk_drewN ?_ _ | refine blk_drew ?_ | refine blk_alloc ?_ _)); refine blk_put (cs := #[.bool false, .slice none 0 0, .int .i64 0]) ?_ 0 _ rfl; (with_reducible repeat (first | refine blk_drewN ?_ _ | refine blk_drew ?_ | refine blk_alloc ?_ _)); exact BK268.out) Tryd.underlying29 rfl (by kernel_rfl)) rfl ?_
 exact ⟨_, er, by (with_reducible repeat (first | apply Kd.V_alloc | apply Kd.V_drewN | apply Kd.V_drew)); exact Kd.V_mono (Kd.V_far (p := ⟨gb268, 2, none⟩) (Kd.V_far (p := ⟨gb268, 1, none⟩) (Kd.V_far (p := ⟨gb268, 0, none⟩) (Kd.V_mono HO279.out (fun k_ hk => (⟨hk, hk.2⟩ : _ ∧ k_ ≠ gb268))) (fun _ hk => hk.2) (.bool t276)) (fun _ hk => hk.2) (.slice Ao13 t277.length co13)) (fun _ hk => hk.2) (.int .i64 t280)) (fun _ hk => hk.1.1), bes⟩
/-! ### mat_Matrix_Finite: function 11 -/
mutual
def mat_Matrix_Finite.l0 : Nat → Int → Int → Int → Int → Int → List Int → Option (Bool)
 | 0, _, _, _, _, _, _ => none
 | k + 1, x6, x7, x282000, x282001, x282002, x282003 => if x7 < x6 then (mat_Matrix_Finite.l1 k x7 x6 x7 x282001 0 x282000 x282001 x282002 x282003) else (some true)
def mat_Matrix_Finite.l1 : Nat → Int → Int → Int → Int → Int → Int → Int → Int → List Int → Option (Bool)
 | 0, _, _, _, _, _, _, _, _, _ => none
 | k + 1, x3, x6, x7, x11, x12, x282000, x282001, x282002, x282003 => if x12 < x11 then ((mat_Matrix_At.f x282000 x282001 x282002 x282003 x3 x12).bind fun t282 => ((word_Finite.f t282).bind fun t283 => (if t283 = true then (mat_Matrix_Finite.l1 k x3 x6 x7 x11 (wrap64 (x12 + 1)) x282000 x282001 x282002 x282003) else (some false)))) else (mat_Matrix_Finite.l0 k x6 (wrap64 (x7 + 1)) x282000 x282001 x282002 x282003)
end
def mat_Matrix_Finite.f (k : Nat) (a0_0 : Int) (a0_1 : Int) (a0_2 : Int) (l0_3 : List Int) : Option (Bool) := mat_Matrix_Finite.l0 k a0_0 0 a0_0 a0_1 a0_2 l0_3
theorem mat_Matrix_Finite.mono_l : ∀ k, (∀ y0 y1 y2 y3 y4 y5, LeO (mat_Matrix_Finite.l0 k y0 y1 y2 y3 y4 y5) (mat_Matrix_Finite.l0 (k + 1) y0 y1 y2 y3 y4 y5)) ∧ (∀ y0 y1 y2 y3 y4 y5 y6 y7 y8, LeO (mat_Matrix_Finite.l1 k y0 y1 y2 y3 y4 y5 y6 y7 y8) (mat_Matrix_Finite.l1 (k + 1) y0 y1 y2 y3 y4 y5 y6 y7 y8))
 | 0 => ⟨fun _ _ _ _ _ _ r h => by simp [mat_Matrix_Finite.l0] at h, fun _ _ _ _ _ _ _ _ _ r h => by simp [mat_Matrix_Finite.l1] at h⟩
 | k + 1 => by
  obtain ⟨ih0, ih1⟩ := mat_Matrix_Finite.mono_l k
  refine ⟨?_, ?_⟩ <;> intros <;> (first | unfold mat_Matrix_Finite.l0 | unfold mat_Matrix_Finite.l1) <;>
   repeat' with_reducible first | apply ih0 | apply ih1 | exact LeO.refl _ | exact LeO.none _ | refine LeO.ite ?_ ?_ | refine LeO.bind ?_ (fun _ => ?_)
theorem mat_Matrix_Finite.mono : ∀ a0 a1 a2 a3 k, LeO (mat_Matrix_Finite.f k a0 a1 a2 a3) (mat_Matrix_Finite.f (k + 1) a0 a1 a2 a3) := by
 intro a0 a1 a2 a3 k
 obtain ⟨ih0, ih1⟩ := mat_Matrix_Finite.mono_l k
 unfold mat_Matrix_Finite.f
 repeat' with_reducible first | apply ih0 | apply ih1 | exact LeO.refl _ | exact LeO.none _ | refine LeO.ite ?_ ?_ | refine LeO.bind ?_ (fun _ => ?_)
set_option maxHeartbeats 8000000 in
set_option maxRecDepth 100000 in
theorem mat_Matrix_Finite.calls (k : Nat) (a0_0 : Int) (a0_1 : Int) (a0_2 : Int) (A0_3 : Option Addr) (c0_3 : Nat) (l0_3 : List Int) (r : Bool) (w : World) (hr0_3 : Kd.C (Kd.int .u64) w A0_3 l0_3.length l0_3) (hc0_3 : l0_3.length ≤ c0_3) (h : mat_Matrix_Finite.f k a0_0 a0_1 a0_2 l0_3 = some r) :
  Calls Tryd.prog 11 #[.agg #[.int .i64 a0_0, .int .i64 a0_1, .int .i64 a0_2, .slice A0_3 l0_3.length c0_3]] w fun e w' => e = .returned (.bool r) ∧ Below w.heap.size w w' := by
 have hu25 := Tryd.underlying25
 have HR0_3 := Aside0.mk hr0_3
 have HC0_3 := Aside0.mk hc0_3
 clear hr0_3 hc0_3
 have HB := Aside0.mk (Below.refl w.heap.size w)
 have H : (mat_Matrix_Finite.l0 k a0_0 0 a0_0 a0_1 a0_2 l0_3) = some r := h
 clear h
 have H' := Aside0.mk H
 clear H
 go_enter Tryd.func11, Tryd.ntmps11
 go_wp2_with (first | ((with_reducible refine gate_dst (N := 1) rfl ?_); refine gbox (N := 1) (cs := #[.int .i64 a0_0, .int .i64 a0_1, .int .i64 a0_2, .slice A0_3 l0_3.length c0_3]) (t := 25) ?_; intro gb281 hg w2 hbox hb; refine ax4 (below_step bel hb) hbox ((ge hg : w.heap.size ≤ gb281)) ((ge hg : w.heap.size ≤ gb281)) ?_; clear HB; intro HB BK281 GW281 GE281; clear hb hbox hg; have hcz3_0 := bc BK281 0 rfl; have hcz3_1 := bc BK281 1 rfl; have hcz3_2 := bc BK281 2 rfl; have hcz3_3 := bc BK281 3 rfl; have hfz3_0 := blk_frozen BK281.out 0; have hfz3_1 := blk_frozen BK281.out 1; have hfz3_2 := blk_frozen BK281.out 2; have hfz3_3 := blk_frozen BK281.out 3))
 go_loopg [7] k (fun kq v7 w' => ∃ (x7_1 : Int), v7 = .int .i64 x7_1 ∧ Aside0 (mat_Matrix_Finite.l0 kq a0_0 x7_1 a0_0 a0_1 a0_2 l0_3 = some r) ∧ Aside0 (kq ≤ k) ∧ Aside0 (w'.heap[gb281]? = some (.cells #[.int .i64 a0_0, .int .i64 a0_1, .int .i64 a0_2, (.slice A0_3 l0_3.length c0_3)] 25 (0, 0))) ∧ Aside0 (Below w.heap.size w w'))
 case atStart => exact ⟨(0), (by first | rfl | (simp; done) | (simp [*]; done)), H', ⟨Nat.le_refl _⟩, ⟨kb BK281⟩, ⟨bes⟩⟩
 case round =>
  clear H'
  try clear c1
  try clear p2
  try clear hcz3_0
  try clear hcz3_1
  try clear hcz3_2
  try clear hcz3_3
  try clear hfz3_0
  try clear hfz3_1
  try clear hfz3_2
  try clear hfz3_3
  obtain ⟨x7_1, rfl, HA, HK1, BK281, HB⟩ := hrel
  cases gk with
  | zero => exact absurd HA.out (by simp [mat_Matrix_Finite.l0])
  | succ k1 =>
   have H := HA.out
   clear HA
   simp only [mat_Matrix_Finite.l0] at H
   by_cases c4 : x7_1 < a0_0
   rotate_left
   ·
    rw [if_neg c4] at H
    have c4b0 : decide (x7_1 < a0_0) = false := decide_eq_false c4
    clear c4
    obtain rfl := Option.some.inj H
    go_wp2
    go_ret
    exact ⟨er, bes⟩

   rw [if_pos c4] at H
   have c4b0 : decide (x7_1 < a0_0) = true := decide_eq_true c4
   clear c4
   have H' := Aside0.mk H
   clear H
   have hcz5_0 := bc BK281 0 rfl
   have hcz5_1 := bc BK281 1 rfl
   have hcz5_2 := bc BK281 2 rfl
   have hcz5_3 := bc BK281 3 rfl
   have hfz5_0 := blk_frozen BK281.out 0
   have hfz5_1 := blk_frozen BK281.out 1
   have hfz5_2 := blk_frozen BK281.out 2
   have hfz5_3 := blk_frozen BK281.out 3
   go_wp2
   go_loopg [12] k1 (fun kq v12 w' => ∃ (x12_2 : Int), v12 = .int .i64 x12_2 ∧ Aside0 (mat_Matrix_Finite.l1 kq x7_1 a0_0 x7_1 a0_1 x12_2 a0_0 a0_1 a0_2 l0_3 = some r) ∧ Aside0 (kq ≤ k1) ∧ Aside0 (w'.heap[gb281]? = some (.cells #[.int .i64 a0_0, .int .i64 a0_1, .int .i64 a0_2, (.slice A0_3 l0_3.length c0_3)] 25 (0, 0))) ∧ Aside0 (Below w.heap.size w w'))
   case atStart => exact ⟨(0), (by first | rfl | (simp; done) | (simp [*]; done)), H', ⟨Nat.le_refl _⟩, ⟨kb BK281⟩, ⟨bes⟩⟩
   case round =>
    clear H'
    try clear c1
    try clear p2
    try clear c4
    try clear c4b0
    try clear hcz3_0
    try clear hcz3_1
    try clear hcz3_2
    try clear hcz3_3
    try clear hcz5_0
    try clear hcz5_1
    try clear hcz5_2
    try clear hcz5_3
    try clear hfz3_0
    try clear hfz3_1
    try clear hfz3_2
    try clear hfz3_3
    try clear hfz5_0
    try clear hfz5_1
    try clear hfz5_2
    try clear hfz5_3
    try clear p2
    obtain ⟨x12_2, rfl, HA, HK2, BK281, HB⟩ := hrel
    cases gk with
    | zero => exact absurd HA.out (by simp [mat_Matrix_Finite.l1])
    | succ k2 =>
     have H := HA.out
     clear HA
     simp only [mat_Matrix_Finite.l1] at H
     by_cases c6 : x12_2 < a0_1
     rotate_left
     ·
      rw [if_neg c6] at H
      have c6b0 : decide (x12_2 < a0_1) = false := decide_eq_false c6
      clear c6
      have H' := Aside0.mk H
      clear H
      go_wp2
      go_roundg k2
      case measure => have := HK1.out; have := HK2.out; omega
      case rel => exact ⟨(wrap64 (x7_1 + 1)), (by first | rfl | (simp; done) | (simp [*]; done)), H', ⟨by have := HK1.out; have := HK2.out; omega⟩, ⟨kb BK281⟩, ⟨bes⟩⟩
     rw [if_pos c6] at H
     have c6b0 : decide (x12_2 < a0_1) = true := decide_eq_true c6
     clear c6
     obtain ⟨t282, A70, H⟩ := Option.bind_eq_some_iff.mp H
     (try dsimp -simprocs only at H)
     have A7 := Aside0.mk A70
     clear A70
     obtain ⟨t283, A80, H⟩ := Option.bind_eq_some_iff.mp H
     (try dsimp -simprocs only at H)
     have A8 := Aside0.mk A80
     clear A80
     by_cases c9 : t283 = true
     ·
      subst c9
      rw [if_pos rfl] at H
      have H' := Aside0.mk H
      clear H
      have hcz10_0 := bc BK281 0 rfl
      have hcz10_1 := bc BK281 1 rfl
      have hcz10_2 := bc BK281 2 rfl
      have hcz10_3 := bc BK281 3 rfl
      have hfz10_0 := blk_frozen BK281.out 0
      have hfz10_1 := blk_frozen BK281.out 1
      have hfz10_2 := blk_frozen BK281.out 2
      have hfz10_3 := blk_frozen BK281.out 3
      go_wp2_with (first | ((with_reducible refine gate_callee (f := 8) rfl ?_); refine goesL_ (some 18) rfl rfl Tryd.func8 (by kernel_rfl) rfl #[.agg #[.int .i64 a0_0, .int .i64 a0_1, .int .i64 a0_2, .slice A0_3 l0_3.length c0_3], .int .i64 x7_1, .int .i64 x12_2] rfl ga ?_; (with_reducible refine (mat_Matrix_At.calls a0_0 a0_1 a0_2 _ _ l0_3 x7_1 x12_2 t282 _ ?side1 ?side2 A7.out).mono ?_); (case side1 => repeat (first | exact (Kd.C_below HR0_3.out HB.out) | (with_reducible refine Kd.C_alloc ?_ _) | (with_reducible refine Kd.C_drewN ?_ _) | (with_reducible refine Kd.C_drew ?_))); (case side2 => exact HC0_3.out); rintro e w11 ⟨rfl, hb⟩; refine ⟨_, rfl, ?_⟩; refine ax2 (bb BK281 hb) (below_step bes hb) ?_; clear BK281; clear HB; intro BK281 HB; (try clear hb)) | ((with_reducible refine gate_callee (f := 25) rfl ?_); refine goesL_ (some 19) rfl rfl Tryd.func25 (by kernel_rfl) rfl #[.int .u64 t282] rfl ga ?_; (with_reducible refine (word_Finite.calls t282 true _ A8.out).mono ?_); rintro e w' ⟨rfl, ⟨nd, rfl⟩⟩; refine ⟨_, rfl, ?_⟩))
      go_roundg k2
      case measure => have := HK1.out; have := HK2.out; omega
      case rel => exact ⟨(wrap64 (x12_2 + 1)), (by first | rfl | (simp; done) | (simp [*]; done)), H', ⟨by have := HK1.out; have := HK2.out; omega⟩, ⟨kb BK281⟩, ⟨bes⟩⟩
     ·
      replace c9 := Bool.eq_false_iff.mpr c9
      subst c9
      rw [if_neg (show ¬ (false = true) by decide)] at H
      obtain rfl := Option.some.inj H
      have hcz12_0 := bc BK281 0 rfl
      have hcz12_1 := bc BK281 1 rfl
      have hcz12_2 := bc BK281 2 rfl
      have hcz12_3 := bc BK281 3 rfl
      have hfz12_0 := blk_frozen BK281.out 0
      have hfz12_1 := blk_frozen BK281.out 1
      have hfz12_2 := blk_frozen BK281.out 2
      have hfz12_3 := blk_frozen BK281.out 3
      go_wp2_with (first | ((with_reducible refine gate_callee (f := 8) rfl ?_); refine goesL_ (some 18) rfl rfl Tryd.func8 (by kernel_rfl) rfl #[.agg #[.int .i64 a0_0, .int .i64 a0_1, .int .i64 a0_2, .slice A0_3 l0_3.length c0_3], .int .i64 x7_1, .int .i64 x12_2] rfl ga ?_; (with_reducible refine (mat_Matrix_At.calls a0_0 a0_1 a0_2 _ _ l0_3 x7_1 x12_2 t282 _ ?side1 ?side2 A7.out).mono ?_); (case side1 => repeat (first | exact (Kd.C_below HR0_3.out HB.out) | (with_reducible refine Kd.C_alloc ?_ _) | (with_reducible refine Kd.C_drewN ?_ _) | (with_reducible refine Kd.C_drew ?_))); (case side2 => exact HC0_3.out); rintro e w13 ⟨rfl, hb⟩; refine ⟨_, rfl, ?_⟩; refine ax2 (bb BK281 hb) (below_step bes hb) ?_; clear BK281; clear HB; intro BK281 HB; (try clear hb)) | ((with_reducible refine gate_callee (f := 25) rfl ?_); refine goesL_ (some 19) rfl rfl Tryd.func25 (by kernel_rfl) rfl #[.int .u64 t282] rfl ga ?_; (with_reducible refine (word_Finite.calls t282 false _ A8.out).mono ?_); rintro e w' ⟨rfl, ⟨nd, rfl⟩⟩; refine ⟨_, rfl, ?_⟩))
      go_ret
      exact ⟨er, bes⟩
/-! ### dyad_line_1: function 44 -/
def dyad_line_1.l0 : Nat → List Int → Int → Option (List Int)
 | 0, _, _ => none
 | k + 1, x0, x3 => if x3 > 0 then (if 0 ≤ (wrap64 (x3 - 1)) then (if (wrap64 (x3 - 1)) < (x0.length : Int) then (if (rd x0 (wrap64 (x3 - 1))) = 0 then (dyad_line_1.l0 k x0 (wrap64 (x3 - 1))) else (if 0 ≤ x3 then (if x3 ≤ (x0.length : Int) then (some (x0.take (x3 : Int).toNat)) else (none)) else (none))) else (none)) else (none)) else (if 0 ≤ x3 then (if x3 ≤ (x0.length : Int) then (some (x0.take (x3 : Int).toNat)) else (none)) else (none))
def dyad_line_1.f (k : Nat) (l0 : List Int) : Option (List Int) := dyad_line_1.l0 k l0 (l0.length : Int)
theorem dyad_line_1.mono_l : ∀ k, (∀ y0 y1, LeO (dyad_line_1.l0 k y0 y1) (dyad_line_1.l0 (k + 1) y0 y1))
 | 0 => fun _ _ r h => by simp [dyad_line_1.l0] at h
 | k + 1 => by
  have ih0 := dyad_line_1.mono_l k
  ·
   intro y0 y1
   unfold dyad_line_1.l0
   repeat' with_reducible first | apply ih0 | exact LeO.refl _ | exact LeO.none _ | refine LeO.ite ?_ ?_ | refine LeO.bind ?_ (fun _ => ?_)
theorem dyad_line_1.mono : ∀ a0 k, LeO (dyad_line_1.f k a0) (dyad_line_1.f (k + 1) a0) := by
 intro a0 k
 have ih0 := dyad_line_1.mono_l k
 unfold dyad_line_1.f
 repeat' with_reducible first | apply ih0 | exact LeO.refl _ | exact LeO.none _ | refine LeO.ite ?_ ?_ | refine LeO.bind ?_ (fun _ => ?_)
set_option maxHeartbeats 8000000 in
set_option maxRecDepth 100000 in
theorem dyad_line_1.calls (k : Nat) (P0_ : Nat → Prop) (A0 : Option Addr) (c0 : Nat) (l0 : List Int) (r : List Int) (w : World) (hs0 : Kd.V (Kd.int .u32) 56 w w.heap.size (fun k_ => P0_ k_) (.slice A0 l0.length c0) l0) (h : dyad_line_1.f k l0 = some r) :
  Calls Tryd.prog 44 #[.slice A0 l0.length c0] w fun e w' => ∃ v0_ : Value, e = .returned (v0_) ∧ Kd.V (Kd.int .u32) 56 w' w.heap.size (fun k_ => (P0_ k_ ∨ w.heap.size ≤ k_)) v0_ r ∧ Below w.heap.size w w' := by
 have HO0 := Aside0.mk (show Kd.V (Kd.int .u32) 56 w w.heap.size (fun k_ => (P0_ k_ ∨ w.heap.size ≤ k_)) (.slice A0 l0.length c0) l0 from Kd.V_mono hs0 (fun k_ hk => .inl hk))
 have HB := Aside0.mk (Below.refl w.heap.size w)
 have H : (dyad_line_1.l0 k l0 (l0.length : Int)) = some r := h
 clear h
 have H' := Aside0.mk H
 clear H
 go_enter Tryd.func44, Tryd.ntmps44
 go_wp2
 go_loopg [3] k (fun kq v3 w' => ∃ (x3_1 : Int), v3 = .int .i64 x3_1 ∧ Aside0 (dyad_line_1.l0 kq l0 x3_1 = some r) ∧ Aside0 (kq ≤ k) ∧ Aside0 (Kd.V (Kd.int .u32) 56 w' w.heap.size (fun k_ => (P0_ k_ ∨ w.heap.size ≤ k_)) (.slice A0 l0.length c0) l0) ∧ Aside0 (Below w.heap.size w w'))
 case atStart => exact ⟨((l0.length : Int)), (by first | rfl | (simp; done) | (simp [*]; done)), H', ⟨Nat.le_refl _⟩, ⟨kv HO0⟩, ⟨bel⟩⟩
 case round =>
  clear H'
  obtain ⟨x3_1, rfl, HA, HK1, HO_0, HB⟩ := hrel
  cases gk with
  | zero => exact absurd HA.out (by simp [dyad_line_1.l0])
  | succ k1 =>
   have H := HA.out
   clear HA
   simp only [dyad_line_1.l0] at H
   by_cases c2 : x3_1 > 0
   ·
    rw [if_pos c2] at H
    have c2b0 : decide (0 < x3_1) = true := decide_eq_true c2
    clear c2
    obtain ⟨ji3, hji3⟩ : ∃ j_ : Int, (wrap64 (x3_1 - 1)) = j_ := ⟨_, rfl⟩
    replace H : (if 0 ≤ (ji3) then (if (ji3) < (l0.length : Int) then (if (rd l0 (ji3)) = 0 then (dyad_line_1.l0 k1 l0 ji3) else (if 0 ≤ x3_1 then (if x3_1 ≤ (l0.length : Int) then (some (l0.take (x3_1 : Int).toNat)) else (none)) else (none))) else (none)) else (none)) = some r := by first | (rw [hji3] at H; exact H) | (simp only [hji3] at H ⊢; exact H)
    have hji3w : (IntKind.i64.wrap (x3_1 - 1)) = ji3 := (i64_w _).trans hji3
    by_cases c4 : 0 ≤ (ji3)
    rotate_left
    ·
     rw [if_neg c4] at H
     exact absurd H (by simp)
    rw [if_pos c4] at H
    have c4b0 : decide (0 ≤ (ji3)) = true := decide_eq_true c4
    clear c4
    by_cases c5 : (ji3) < (l0.length : Int)
    rotate_left
    ·
     rw [if_neg c5] at H
     exact absurd H (by simp)
    rw [if_pos c5] at H
    have c5b0 : decide ((ji3) < (l0.length : Int)) = true := decide_eq_true c5
    clear c5
    by_cases c6 : (rd l0 (ji3)) = 0
    ·
     rw [if_pos c6] at H
     have c6b0 : ((rd l0 (ji3)) == 0) = true := beq_iff_eq.mpr c6
     have c6b1 : ((rd l0 (ji3)) != 0) = false := bne_eq_false_iff_eq.mpr c6
     clear c6
     have H' := Aside0.mk H
     clear H
     have p284 : 0 ≤ ((ji3) : Int) := of_decide_eq_true (by first | (with_reducible assumption) | assumption)
     have q284 : (ji3) < (l0.length : Int) := of_decide_eq_true (by first | (with_reducible assumption) | assumption)
     obtain ⟨ad284, e284, hx284_0⟩ := Kd.at_int (Kd.V_reads' HO_0.out).2.2 (ji3) p284 q284
     cases e284
     replace p284 := eq_true p284
     replace q284 := eq_true q284
     go_wp2
     go_roundg k1
     case measure => have := HK1.out; omega
     case rel => exact ⟨(ji3), (by first | rfl | (simp; done) | (simp only [← hji3] <;> (first | rfl | simp)) | (simp [*]; done)), H', ⟨by have := HK1.out; omega⟩, ⟨kv HO_0⟩, ⟨bel⟩⟩
    ·
     rw [if_neg c6] at H
     have c6b0 : ((rd l0 (ji3)) == 0) = false := beq_eq_false_iff_ne.mpr c6
     have c6b1 : ((rd l0 (ji3)) != 0) = true := bne_iff_ne.mpr c6
     by_cases c7 : 0 ≤ x3_1
     rotate_left
     ·
      rw [if_neg c7] at H
      exact absurd H (by simp)
     rw [if_pos c7] at H
     have c7b0 := eq_true c7
     have c7b1 : decide (0 ≤ x3_1) = true := decide_eq_true c7
     clear c7
     by_cases c8 : x3_1 ≤ (l0.length : Int)
     rotate_left
     ·
      rw [if_neg c8] at H
      exact absurd H (by simp)
     rw [if_pos c8] at H
     have c8b0 := eq_true c8
     have c8b1 : decide (x3_1 ≤ (l0.length : Int)) = true := decide_eq_true c8
     clear c8
     obtain ⟨y285, hy285⟩ : ∃ y_ : List Int, y_ = (l0.take (x3_1 : Int).toNat) := ⟨_, rfl⟩
     replace H : (some y285) = some r := by first | (rw [hy285]; with_reducible exact H) | (have H2_ := (Option.bind_some _ _).symm.trans H; rw [hy285]; with_reducible exact H2_) | (have H2_ := (Option.bind_some _ _).symm.trans H; with_reducible exact H2_) | with_reducible exact H | (rw [hy285]; exact H) | exact H
     have Ny285 := Aside0.mk hy285
     clear hy285
     obtain rfl := Option.some.inj H
     have p284 : 0 ≤ ((ji3) : Int) := of_decide_eq_true (by first | (with_reducible assumption) | assumption)
     have q284 : (ji3) < (l0.length : Int) := of_decide_eq_true (by first | (with_reducible assumption) | assumption)
     obtain ⟨ad284, e284, hx284_0⟩ := Kd.at_int (Kd.V_reads' HO_0.out).2.2 (ji3) p284 q284
     cases e284
     replace p284 := eq_true p284
     replace q284 := eq_true q284
     have q9 : (x3_1 : Int) ≤ ((l0.length : Int) : Int) := of_decide_eq_true (by first | (with_reducible assumption) | assumption)
     obtain ⟨i09, hi09, _, hsz9, _⟩ := info_parts info56
     have hroom9 : l0.length ≤ c0 := (Kd.V_reads' HO_0.out).2.1
     have hC9 : Kd.F (Kd.int .u32) _ _ (some ad284) l0.length l0 := (Kd.V_at (base := w.heap.size) HO_0.out).2.2
     have hcut9 := cut_to (P := Tryd.prog) 27 56 .i64 Tryd.underlying27 hi09 (some ad284) l0.length c0 x3_1 (of_decide_eq_true (by first | (with_reducible assumption) | assumption)) q9 hroom9
     have hr9 := Kd.F_take (m := (x3_1 : Int).toNat) hC9 (by omega)
     have hy9 : y285.length = (x3_1 : Int).toNat := (by rw [Ny285.out, List.length_take]; omega)
     rw [← Ny285.out] at hr9
     rw [← hy9] at hcut9
     have HO289 := Aside0.mk (show Kd.V (Kd.int .u32) 56 _ w.heap.size _ (.slice (some ad284) y285.length c0) y285 from Kd.V_mk (by omega) hr9)
     have HC289 := Aside0.mk (show y285.length ≤ c0 from by omega)
     clear hr9 hC9 hroom9 hi09 hsz9
     have KY9 := Aside0.mk hy9
     clear hy9
     replace q9 := eq_true q9
     go_wp2
     go_ret
     exact ⟨_, by first | rfl | (simp [errW_none, errW_some] <;> rfl) | (simp only [← hji3]; first | rfl | (simp [errW_none, errW_some] <;> rfl)) | (simp [*, errW_none, errW_some] <;> rfl), kv HO289, bel⟩
   ·
    rw [if_neg c2] at H
    have c2b0 : decide (0 < x3_1) = false := decide_eq_false c2
    clear c2
    by_cases c10 : 0 ≤ x3_1
    rotate_left
    ·
     rw [if_neg c10] at H
     exact absurd H (by simp)

    rw [if_pos c10] at H
    have c10b0 := eq_true c10
    have c10b1 : decide (0 ≤ x3_1) = true := decide_eq_true c10
    clear c10
    by_cases c11 : x3_1 ≤ (l0.length : Int)
    rotate_left
    ·
     rw [if_neg c11] at H
     exact absurd H (by simp)
    rw [if_pos c11] at H
    have c11b0 := eq_true c11
    have c11b1 : decide (x3_1 ≤ (l0.length : Int)) = true := decide_eq_true c11
    clear c11
    obtain ⟨y290, hy290⟩ : ∃ y_ : List Int, y_ = (l0.take (x3_1 : Int).toNat) := ⟨_, rfl⟩
    replace H : (some y290) = some r := by first | (rw [hy290]; with_reducible exact H) | (have H2_ := (Option.bind_some _ _).symm.trans H; rw [hy290]; with_reducible exact H2_) | (have H2_ := (Option.bind_some _ _).symm.trans H; with_reducible exact H2_) | with_reducible exact H | (rw [hy290]; exact H) | exact H
    have Ny290 := Aside0.mk hy290
    clear hy290
    obtain rfl := Option.some.inj H
    have q12 : (x3_1 : Int) ≤ ((l0.length : Int) : Int) := of_decide_eq_true (by first | (with_reducible assumption) | assumption)
    obtain ⟨i012, hi012, _, hsz12, _⟩ := info_parts info56
    have hroom12 : l0.length ≤ c0 := (Kd.V_reads' HO_0.out).2.1
    have hC12 : Kd.F (Kd.int .u32) _ _ A0 l0.length l0 := (Kd.V_at (base := w.heap.size) HO_0.out).2.2
    have hcut12 := cut_to (P := Tryd.prog) 27 56 .i64 Tryd.underlying27 hi012 A0 l0.length c0 x3_1 (of_decide_eq_true (by first | (with_reducible assumption) | assumption)) q12 hroom12
    have hr12 := Kd.F_take (m := (x3_1 : Int).toNat) hC12 (by omega)
    have hy12 : y290.length = (x3_1 : Int).toNat := (by rw [Ny290.out, List.length_take]; omega)
    rw [← Ny290.out] at hr12
    rw [← hy12] at hcut12
    have HO294 := Aside0.mk (show Kd.V (Kd.int .u32) 56 _ w.heap.size _ (.slice A0 y290.length c0) y290 from Kd.V_mk (by omega) hr12)
    have HC294 := Aside0.mk (show y290.length ≤ c0 from by omega)
    clear hr12 hC12 hroom12 hi012 hsz12
    have KY12 := Aside0.mk hy12
    clear hy12
    replace q12 := eq_true q12
    go_wp2
    go_ret
    exact ⟨_, er, kv HO294, bel⟩
/-! ### dyad_up: function 45 -/
def dyad_up.l0 : Nat → List Int → Int → Int → List Int → Int → Int → Option (List Int)
 | 0, _, _, _, _, _, _ => none
 | k + 1, x5, x6, x7, x21, x22, x23 => if x23 < x22 then (if 0 ≤ x23 then (if x23 < (x21.length : Int) then (if 0 ≤ x6 then (if x5.length < 35184372088832 then (if 0 ≤ (wrap64 (32 - x6)) then (dyad_up.l0 k (x5 ++ [Go.bits .or .u32 (shl .u32 (rd x21 x23) x6) x7]) x6 ((shr .u64 (IntKind.u64.wrap (rd x21 x23)) (wrap64 (32 - x6))) % 4294967296) x21 x22 (wrap64 (x23 + 1))) else (none)) else (none)) else (none)) else (none)) else (none)) else (if x5.length < 35184372088832 then (some (x5 ++ [x7])) else (none))
def dyad_up.f (k : Nat) (l0 : List Int) (a1 : Int) : Option (List Int) := if 0 ≤ (wrap64 (Int.tdiv a1 32)) then (if (wrap64 (Int.tdiv a1 32)) ≤ (wrap64 ((wrap64 ((wrap64 (Int.tdiv a1 32)) + (l0.length : Int))) + 1)) then (if (wrap64 ((wrap64 ((wrap64 (Int.tdiv a1 32)) + (l0.length : Int))) + 1) : Int).toNat ≤ 70368744177664 then (dyad_up.l0 k (List.replicate (wrap64 (Int.tdiv a1 32) : Int).toNat 0) (Int.tmod a1 32) 0 l0 (l0.length : Int) 0) else (none)) else (none)) else (none)
theorem dyad_up.mono_l : ∀ k, (∀ y0 y1 y2 y3 y4 y5, LeO (dyad_up.l0 k y0 y1 y2 y3 y4 y5) (dyad_up.l0 (k + 1) y0 y1 y2 y3 y4 y5))
 | 0 => fun _ _ _ _ _ _ r h => by simp [dyad_up.l0] at h
 | k + 1 => by
  have ih0 := dyad_up.mono_l k
  ·
   intro y0 y1 y2 y3 y4 y5
   unfold dyad_up.l0
   repeat' with_reducible first | apply ih0 | exact LeO.refl _ | exact LeO.none _ | refine LeO.ite ?_ ?_ | refine LeO.bind ?_ (fun _ => ?_)
theorem dyad_up.mono : ∀ a0 a1 k, LeO (dyad_up.f k a0 a1) (dyad_up.f (k + 1) a0 a1) := by
 intro a0 a1 k
 have ih0 := dyad_up.mono_l k
 unfold dyad_up.f
 repeat' with_reducible first | apply ih0 | exact LeO.refl _ | exact LeO.none _ | refine LeO.ite ?_ ?_ | refine LeO.bind ?_ (fun _ => ?_)
set_option maxHeartbeats 8000000 in
set_option maxRecDepth 100000 in
theorem dyad_up.calls (k : Nat) (A0 : Option Addr) (c0 : Nat) (l0 : List Int) (a1 : Int) (r : List Int) (w : World) (hr0 : Kd.C (Kd.int .u32) w A0 l0.length l0) (hc0 : l0.length ≤ c0) (h : dyad_up.f k l0 a1 = some r) :
  Calls Tryd.prog 45 #[.slice A0 l0.length c0, .int .i64 a1] w fun e w' => ∃ v0_ : Value, e = .returned (v0_) ∧ Kd.R (Kd.int .u32) 56 w' w.heap.size (fun _ => True) v0_ r ∧ Below w.heap.size w w' := by
 have HR0 := Aside0.mk hr0
 have HC0 := Aside0.mk hc0
 clear hr0 hc0
 have HB := Aside0.mk (Below.refl w.heap.size w)
 have H : (if 0 ≤ (wrap64 (Int.tdiv a1 32)) then (if (wrap64 (Int.tdiv a1 32)) ≤ (wrap64 ((wrap64 ((wrap64 (Int.tdiv a1 32)) + (l0.length : Int))) + 1)) then (if (wrap64 ((wrap64 ((wrap64 (Int.tdiv a1 32)) + (l0.length : Int))) + 1) : Int).toNat ≤ 70368744177664 then (dyad_up.l0 k (List.replicate (wrap64 (Int.tdiv a1 32) : Int).toNat 0) (Int.tmod a1 32) 0 l0 (l0.length : Int) 0) else (none)) else (none)) else (none)) = some r := h
 clear h
 obtain ⟨jt0, hjt0⟩ : ∃ j_ : Int, (Int.tmod a1 32) = j_ := ⟨_, rfl⟩
 replace H : (if 0 ≤ (wrap64 (Int.tdiv a1 32)) then (if (wrap64 (Int.tdiv a1 32)) ≤ (wrap64 ((wrap64 ((wrap64 (Int.tdiv a1 32)) + (l0.length : Int))) + 1)) then (if (wrap64 ((wrap64 ((wrap64 (Int.tdiv a1 32)) + (l0.length : Int))) + 1) : Int).toNat ≤ 70368744177664 then (dyad_up.l0 k (List.replicate (wrap64 (Int.tdiv a1 32) : Int).toNat 0) jt0 0 l0 (l0.length : Int) 0) else (none)) else (none)) else (none)) = some r := by first | (rw [hjt0] at H; exact H) | (simp only [hjt0] at H ⊢; exact H)
 obtain ⟨ji3, hji3⟩ : ∃ j_ : Int, (wrap64 (Int.tdiv a1 32)) = j_ := ⟨_, rfl⟩
 replace H : (if 0 ≤ (ji3) then (if (ji3) ≤ (wrap64 ((wrap64 ((ji3) + (l0.length : Int))) + 1)) then (if (wrap64 ((wrap64 ((ji3) + (l0.length : Int))) + 1) : Int).toNat ≤ 70368744177664 then (dyad_up.l0 k (List.replicate (ji3 : Int).toNat 0) jt0 0 l0 (l0.length : Int) 0) else (none)) else (none)) else (none)) = some r := by first | (rw [hji3] at H; exact H) | (simp only [hji3] at H ⊢; exact H)
 have hji3w : (IntKind.i64.wrap (Int.tdiv a1 32)) = ji3 := (i64_w _).trans hji3
 by_cases c4 : 0 ≤ (ji3)
 rotate_left
 ·
  rw [if_neg c4] at H
  exact absurd H (by simp)

 rw [if_pos c4] at H
 have c4b0 := eq_true c4
 have c4b1 : decide (0 ≤ (ji3)) = true := decide_eq_true c4
 clear c4
 by_cases c5 : (ji3) ≤ (wrap64 ((wrap64 ((ji3) + (l0.length : Int))) + 1))
 rotate_left
 ·
  rw [if_neg c5] at H
  exact absurd H (by simp)
 rw [if_pos c5] at H
 have c5b0 := eq_true c5
 have c5b1 : decide ((ji3) ≤ (wrap64 ((wrap64 ((ji3) + (l0.length : Int))) + 1))) = true := decide_eq_true c5
 by_cases c6 : (wrap64 ((wrap64 ((ji3) + (l0.length : Int))) + 1) : Int).toNat ≤ 70368744177664
 rotate_left
 ·
  rw [if_neg c6] at H
  exact absurd H (by simp)
 rw [if_pos c6] at H
 have c6b0 := eq_true c6
 have c6b1 : decide ((wrap64 ((wrap64 ((ji3) + (l0.length : Int))) + 1) : Int).toNat ≤ 70368744177664) = true := decide_eq_true c6
 obtain ⟨y295, hy295⟩ : ∃ y_ : List Int, y_ = (List.replicate (ji3 : Int).toNat 0) := ⟨_, rfl⟩
 replace H : (dyad_up.l0 k y295 jt0 0 l0 (l0.length : Int) 0) = some r := by first | (rw [hy295]; with_reducible exact H) | (have H2_ := (Option.bind_some _ _).symm.trans H; rw [hy295]; with_reducible exact H2_) | (have H2_ := (Option.bind_some _ _).symm.trans H; with_reducible exact H2_) | with_reducible exact H | (rw [hy295]; exact H) | exact H
 have Ny295 := Aside0.mk hy295
 clear hy295
 have H' := Aside0.mk H
 clear H
 go_enter Tryd.func45, Tryd.ntmps45
 go_wp2_with (first | ((with_reducible refine gate_dst (N := 18) rfl ?_); refine Kd.R_makeC (Kd.int .u32) _ 56 rfl (N := 18) rfl 27 _ _ rfl ji3 (wrap64 ((wrap64 ((ji3) + (l0.length : Int))) + 1)) rfl rfl Tryd.underlying27 (.int .u32 0) 4 info56 rfl (by decide) (by omega) 0 (ok := fun _ => True) (okp := fun _ => True) rfl (fun _ hk => hk) trivial (of_decide_eq_true (by first | (with_reducible assumption) | assumption)) (of_decide_eq_true (by first | (with_reducible assumption) | assumption)) (Nat.le_trans (Nat.mul_le_mul_right _ (of_decide_eq_true (by first | (with_reducible assumption) | assumption) : (wrap64 ((wrap64 ((ji3) + (l0.length : Int))) + 1)).toNat ≤ 70368744177664)) (by omega)) (Below.refl _ _) (Nat.le_refl _) ?_; intro v296 w7 ho8 hb hg_ hnew_; clear hg_ hnew_; (first | rw [← Ny295.out] at ho8 | (simp only [Int.reduceToNat] at ho8; rw [← Ny295.out] at ho8)); refine ax2 (Kd.R_lower ho8 (below_size bel)) (below_step bel hb) ?_; clear HB; intro HO297 HB; clear hb ho8))
 go_loopg [5, 7, 23] k (fun kq v5 v7 v23 w' => ∃ (x5_1 : List Int) (x7_1 : Int) (x23_1 : Int), v7 = .int .u32 x7_1 ∧ v23 = .int .i64 x23_1 ∧ Aside0 (dyad_up.l0 kq x5_1 jt0 x7_1 l0 (l0.length : Int) x23_1 = some r) ∧ Aside0 (kq ≤ k) ∧ Aside0 (Kd.R (Kd.int .u32) 56 w' w.heap.size (fun _ => True) v5 x5_1) ∧ Aside0 (Below w.heap.size w w'))
 case atStart => exact ⟨(y295), (0), (0), (by first | rfl | (simp; done) | (simp [*]; done)), (by first | rfl | (simp; done) | (simp [*]; done)), H', ⟨Nat.le_refl _⟩, ⟨kr HO297⟩, ⟨bel⟩⟩
 case round =>
  clear H'
  try clear p2
  try clear c4
  try clear c4b0
  try clear c4b1
  try clear c5
  try clear c5b0
  try clear c5b1
  try clear c6
  try clear c6b0
  try clear c6b1
  try clear p6
  obtain ⟨x5_1, x7_1, x23_1, rfl, rfl, HA, HK1, HO_5, HB⟩ := hrel
  cases gk with
  | zero => exact absurd HA.out (by simp [dyad_up.l0])
  | succ k1 =>
   have H := HA.out
   clear HA
   simp only [dyad_up.l0] at H
   by_cases c9 : x23_1 < (l0.length : Int)
   ·
    rw [if_pos c9] at H
    have c9b0 : decide (x23_1 < (l0.length : Int)) = true := decide_eq_true c9
    clear c9
    by_cases c10 : 0 ≤ x23_1
    rotate_left
    ·
     rw [if_neg c10] at H
     exact absurd H (by simp)
    rw [if_pos c10] at H
    have c10b0 : decide (0 ≤ x23_1) = true := decide_eq_true c10
    clear c10
    by_cases c11 : x23_1 < (l0.length : Int)
    rotate_left
    ·
     rw [if_neg c11] at H
     exact absurd H (by simp)
    rw [if_pos c11] at H
    have c11b0 : decide (x23_1 < (l0.length : Int)) = true := decide_eq_true c11
    clear c11
    by_cases c13 : 0 ≤ jt0
    rotate_left
    ·
     rw [if_neg c13] at H
     exact absurd H (by simp)
    rw [if_pos c13] at H
    have c13b0 := eq_true c13
    have c13b1 : decide (0 ≤ jt0) = true := decide_eq_true c13
    clear c13
    obtain ⟨ji14, hji14⟩ : ∃ j_ : Int, (shl .u32 (rd l0 x23_1) jt0) = j_ := ⟨_, rfl⟩
    replace H : (if x5_1.length < 35184372088832 then (if 0 ≤ (wrap64 (32 - jt0)) then (dyad_up.l0 k1 (x5_1 ++ [Go.bits .or .u32 (ji14) x7_1]) jt0 ((shr .u64 (IntKind.u64.wrap (rd l0 x23_1)) (wrap64 (32 - jt0))) % 4294967296) l0 (l0.length : Int) (wrap64 (x23_1 + 1))) else (none)) else (none)) = some r := by first | (rw [hji14] at H; exact H) | (simp only [hji14] at H ⊢; exact H)
    have hji14_ : (IntKind.u32.wrap ((rd l0 x23_1) * 2 ^ min jt0.toNat 32)) = ji14 := hji14
    have hji14z : jt0 ≤ 32 → (IntKind.u32.wrap ((rd l0 x23_1) * 2 ^ jt0.toNat)) = ji14 := shl_small hji14
    by_cases c15 : x5_1.length < 35184372088832
    rotate_left
    ·
     rw [if_neg c15] at H
     exact absurd H (by simp)
    rw [if_pos c15] at H
    have LMc15 := Aside0.mk c15
    clear c15
    obtain ⟨y299, hy299⟩ : ∃ y_ : List Int, y_ = (x5_1 ++ [Go.bits .or .u32 (ji14) x7_1]) := ⟨_, rfl⟩
    replace H : (if 0 ≤ (wrap64 (32 - jt0)) then (dyad_up.l0 k1 y299 jt0 ((shr .u64 (IntKind.u64.wrap (rd l0 x23_1)) (wrap64 (32 - jt0))) % 4294967296) l0 (l0.length : Int) (wrap64 (x23_1 + 1))) else (none)) = some r := by first | (rw [hy299]; with_reducible exact H) | (have H2_ := (Option.bind_some _ _).symm.trans H; rw [hy299]; with_reducible exact H2_) | (have H2_ := (Option.bind_some _ _).symm.trans H; with_reducible exact H2_) | with_reducible exact H | (rw [hy299]; exact H) | exact H
    have Ny299 := Aside0.mk hy299
    clear hy299
    obtain ⟨ji16, hji16⟩ : ∃ j_ : Int, (wrap64 (32 - jt0)) = j_ := ⟨_, rfl⟩
    replace H : (if 0 ≤ (ji16) then (dyad_up.l0 k1 y299 jt0 ((shr .u64 (IntKind.u64.wrap (rd l0 x23_1)) (ji16)) % 4294967296) l0 (l0.length : Int) (wrap64 (x23_1 + 1))) else (none)) = some r := by first | (rw [hji16] at H; exact H) | (simp only [hji16] at H ⊢; exact H)
    have hji16w : (IntKind.i64.wrap (32 - jt0)) = ji16 := (i64_w _).trans hji16
    by_cases c17 : 0 ≤ (ji16)
    rotate_left
    ·
     rw [if_neg c17] at H
     exact absurd H (by simp)
    rw [if_pos c17] at H
    have c17b0 := eq_true c17
    have c17b1 : decide (0 ≤ (ji16)) = true := decide_eq_true c17
    clear c17
    obtain ⟨ji18, hji18⟩ : ∃ j_ : Int, (shr .u64 (IntKind.u64.wrap (rd l0 x23_1)) (ji16)) = j_ := ⟨_, rfl⟩
    replace H : (dyad_up.l0 k1 y299 jt0 ((ji18) % 4294967296) l0 (l0.length : Int) (wrap64 (x23_1 + 1))) = some r := by first | (rw [hji18] at H; exact H) | (simp only [hji18] at H ⊢; exact H)
    have hji18_ : ((IntKind.u64.wrap (rd l0 x23_1)) / 2 ^ min (ji16).toNat 64) = ji18 := hji18
    have hji18z : (ji16) ≤ 64 → ((IntKind.u64.wrap (rd l0 x23_1)) / 2 ^ (ji16).toNat) = ji18 := shr_small hji18
    have H' := Aside0.mk H
    clear H
    have p298 : 0 ≤ (x23_1 : Int) := of_decide_eq_true (by first | (with_reducible assumption) | assumption)
    have q298 : x23_1 < (l0.length : Int) := of_decide_eq_true (by first | (with_reducible assumption) | assumption)
    obtain ⟨ad298, e298, hx298_0⟩ := Kd.at_int HR0.out x23_1 p298 q298
    cases e298
    replace hx298_0 := (HB.out.cell (World.block_lt_of_cell? w _ hx298_0)).trans hx298_0
    replace p298 := eq_true p298
    replace q298 := eq_true q298
    go_wp2_with (first | ((with_reducible refine gate_builtin (b := .append) (xs := #[.tmp 27, .tmp 33]) rfl ?_); at_builtin; refine Kd.R_append (Kd.int .u32) (w0 := w) w.heap.size rfl (.tmp 27) (.tmp 33) 27 56 (.int .u32 0) 4 rfl Tryd.underlying27 info56 rfl (by decide) (by omega) u5 x5_1 (Go.bits .or .u32 (ji14) x7_1) [.int .u32 (Go.bits .or .u32 (ji14) x7_1)] (fun _ => True) (fun _ => False) rfl rfl ?aP (fun _ hk => hk.elim) ?aF ?aO ?aB ?aS ?aL ?_; (case aP => exact rfl); (case aB => exact bel); (case aF => exact (fun _ _ => trivial)); (case aO => exact (kr HO_5)); (case aS => exact (below_size bel)); (case aL => have := LMc15.out; omega); intro v300 w19 ho hb hg hat; rw [← Ny299.out] at ho; refine ax2 hb ho ?_; clear HB; clear HO_5; intro HB HO301; clear ho hb hg hat))
    go_roundg k1
    case measure => have := HK1.out; omega
    case rel => exact ⟨(y299), ((ji18) % 4294967296), (wrap64 (x23_1 + 1)), (by first | rfl | (simp; done) | (simp only [← hji18] <;> (first | rfl | simp)) | (simp [*]; done)), (by first | rfl | (simp; done) | (simp [*]; done)), H', ⟨by have := HK1.out; omega⟩, ⟨kr HO301⟩, ⟨bel⟩⟩
   ·
    rw [if_neg c9] at H
    have c9b0 : decide (x23_1 < (l0.length : Int)) = false := decide_eq_false c9
    clear c9
    by_cases c20 : x5_1.length < 35184372088832
    rotate_left
    ·
     rw [if_neg c20] at H
     exact absurd H (by simp)
    rw [if_pos c20] at H
    have LMc20 := Aside0.mk c20
    clear c20
    obtain ⟨y302, hy302⟩ : ∃ y_ : List Int, y_ = (x5_1 ++ [x7_1]) := ⟨_, rfl⟩
    replace H : (some y302) = some r := by first | (rw [hy302]; with_reducible exact H) | (have H2_ := (Option.bind_some _ _).symm.trans H; rw [hy302]; with_reducible exact H2_) | (have H2_ := (Option.bind_some _ _).symm.trans H; with_reducible exact H2_) | with_reducible exact H | (rw [hy302]; exact H) | exact H
    have Ny302 := Aside0.mk hy302
    clear hy302
    obtain rfl := Option.some.inj H
    go_wp2_with (first | ((with_reducible refine gate_builtin (b := .append) (xs := #[.tmp 42, .tmp 44]) rfl ?_); at_builtin; refine Kd.R_append (Kd.int .u32) (w0 := w) w.heap.size rfl (.tmp 42) (.tmp 44) 27 56 (.int .u32 0) 4 rfl Tryd.underlying27 info56 rfl (by decide) (by omega) u5 x5_1 x7_1 [.int .u32 x7_1] (fun _ => True) (fun _ => False) rfl rfl ?aP (fun _ hk => hk.elim) ?aF ?aO ?aB ?aS ?aL ?_; (case aP => exact rfl); (case aB => exact bel); (case aF => exact (fun _ _ => trivial)); (case aO => exact (kr HO_5)); (case aS => exact (below_size bel)); (case aL => have := LMc20.out; omega); intro v303 w21 ho hb hg hat; rw [← Ny302.out] at ho; refine ax2 hb ho ?_; clear HB; clear HO_5; intro HB HO304; clear ho hb hg hat))
    go_ret
    exact ⟨_, by first | rfl | (simp [errW_none, errW_some] <;> rfl) | (simp only [← hji3]; first | rfl | (simp [errW_none, errW_some] <;> rfl)) | (simp [*, errW_none, errW_some] <;> rfl), kr HO304, bel⟩
end Go.Proofs.YtenegelkbfmjkaaDoor.F
