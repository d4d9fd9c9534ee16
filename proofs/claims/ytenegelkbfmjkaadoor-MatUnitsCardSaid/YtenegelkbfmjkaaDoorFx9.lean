-- Written by a program of this seat's session (mkprint), out of the translation.
import Derived.Test.YtenegelkbfmjkaaDoorShort
import Derived.Test.YtenegelkbfmjkaaDoorFx0
import Derived.Test.YtenegelkbfmjkaaDoorFx2
import Derived.Test.YtenegelkbfmjkaaDoorFx5
import Derived.Test.YtenegelkbfmjkaaDoorFx6
import Derived.Test.YtenegelkbfmjkaaDoorFx8
namespace Go.Proofs.YtenegelkbfmjkaaDoor.F
open Go.RowKit Go.Proofs.YtenegelkbfmjkaaDoorW.PrintWords Go.Proofs.YtenegelkbfmjkaaDoorW.PrintLast Go.Proofs.YtenegelkbfmjkaaDoorW.PrintMore
attribute [local go_sem] max2_int min2_int max_two min_two max_three min_three max_four min_four   -- for this text's walks alone
set_option linter.unusedVariables false
set_option linter.unusedSimpArgs false

/-! ### dyad_Num_Mul: function 10 -/
mutual
def dyad_Num_Mul.j0 : Nat → Bool → Bool → List Int → Int → Bool → List Int → Int → Option (Bool × List Int × Int)
 | 0, _, _, _, _, _, _, _ => none
 | k + 1, x20, x370000, x370001, x370002, x371000, x371001, x371002 => if x20 = true then (some (false, ([] : List Int), 0)) else (if 0 ≤ (wrap64 ((x370001.length : Int) + (x371001.length : Int))) then (if (wrap64 ((x370001.length : Int) + (x371001.length : Int)) : Int).toNat ≤ 70368744177664 then (dyad_Num_Mul.l0 k (List.replicate (wrap64 ((x370001.length : Int) + (x371001.length : Int)) : Int).toNat 0) x370001 (x370001.length : Int) 0 x370000 x370001 x370002 x371000 x371001 x371002) else (none)) else (none))
def dyad_Num_Mul.l0 : Nat → List Int → List Int → Int → Int → Bool → List Int → Int → Bool → List Int → Int → Option (Bool × List Int × Int)
 | 0, _, _, _, _, _, _, _, _, _, _ => none
 | k + 1, x5, x31, x32, x33, x370000, x370001, x370002, x371000, x371001, x371002 => if x33 < x32 then (if 0 ≤ x33 then (if x33 < (x31.length : Int) then (dyad_Num_Mul.l1 k x5 x33 (rd x31 x33) 0 x31 x32 x33 x371001 (x371001.length : Int) 0 x370000 x370001 x370002 x371000 x371001 x371002) else (none)) else (none)) else ((dyad_trim.f k (x370000 != x371000) x5 (wrap64 (x370002 + x371002))).bind fun bt375 => (some (bt375.1, bt375.2.1, bt375.2.2)))
def dyad_Num_Mul.l1 : Nat → List Int → Int → Int → Int → List Int → Int → Int → List Int → Int → Int → Bool → List Int → Int → Bool → List Int → Int → Option (Bool × List Int × Int)
 | 0, _, _, _, _, _, _, _, _, _, _, _, _, _, _, _, _ => none
 | k + 1, x5, x6, x7, x8, x31, x32, x33, x39, x40, x41, x370000, x370001, x370002, x371000, x371001, x371002 => if x41 < x40 then (if 0 ≤ x41 then (if x41 < (x39.length : Int) then (if 0 ≤ (wrap64 (x6 + x41)) then (if (wrap64 (x6 + x41)) < (x5.length : Int) then (dyad_Num_Mul.l1 k (x5.set ((wrap64 (x6 + x41)) : Int).toNat ((IntKind.u64.wrap (x8 + (IntKind.u64.wrap ((IntKind.u64.wrap (rd x5 (wrap64 (x6 + x41)))) + (IntKind.u64.wrap ((IntKind.u64.wrap (x7)) * (IntKind.u64.wrap (rd x39 x41)))))))) % 4294967296)) x6 x7 ((IntKind.u64.wrap (x8 + (IntKind.u64.wrap ((IntKind.u64.wrap (rd x5 (wrap64 (x6 + x41)))) + (IntKind.u64.wrap ((IntKind.u64.wrap (x7)) * (IntKind.u64.wrap (rd x39 x41)))))))) / 4294967296) x31 x32 x33 x39 x40 (wrap64 (x41 + 1)) x370000 x370001 x370002 x371000 x371001 x371002) else (none)) else (none)) else (none)) else (none)) else (if 0 ≤ (wrap64 (x6 + (x371001.length : Int))) then (if (wrap64 (x6 + (x371001.length : Int))) < (x5.length : Int) then (dyad_Num_Mul.l0 k (x5.set ((wrap64 (x6 + (x371001.length : Int))) : Int).toNat ((x8) % 4294967296)) x31 x32 (wrap64 (x33 + 1)) x370000 x370001 x370002 x371000 x371001 x371002) else (none)) else (none))
end
def dyad_Num_Mul.f (k : Nat) (a0_0 : Bool) (l0_1 : List Int) (a0_2 : Int) (a1_0 : Bool) (l1_1 : List Int) (a1_2 : Int) : Option (Bool × List Int × Int) := if (l0_1.length : Int) = 0 then (dyad_Num_Mul.j0 k true a0_0 l0_1 a0_2 a1_0 l1_1 a1_2) else (dyad_Num_Mul.j0 k ((l1_1.length : Int) == 0) a0_0 l0_1 a0_2 a1_0 l1_1 a1_2)
theorem dyad_Num_Mul.mono_l : ∀ k, (∀ y0 y1 y2 y3 y4 y5 y6, LeO (dyad_Num_Mul.j0 k y0 y1 y2 y3 y4 y5 y6) (dyad_Num_Mul.j0 (k + 1) y0 y1 y2 y3 y4 y5 y6)) ∧ (∀ y0 y1 y2 y3 y4 y5 y6 y7 y8 y9, LeO (dyad_Num_Mul.l0 k y0 y1 y2 y3 y4 y5 y6 y7 y8 y9) (dyad_Num_Mul.l0 (k + 1) y0 y1 y2 y3 y4 y5 y6 y7 y8 y9)) ∧ (∀ y0 y1 y2 y3 y4 y5 y6 y7 y8 y9 y10 y11 y12 y13 y14 y15, LeO (dyad_Num_Mul.l1 k y0 y1 y2 y3 y4 y5 y6 y7 y8 y9 y10 y11 y12 y13 y14 y15) (dyad_Num_Mul.l1 (k + 1) y0 y1 y2 y3 y4 y5 y6 y7 y8 y9 y10 y11 y12 y13 y14 y15))
 | 0 => ⟨fun _ _ _ _ _ _ _ r h => by simp [dyad_Num_Mul.j0] at h, fun _ _ _ _ _ _ _ _ _ _ r h => by simp [dyad_Num_Mul.l0] at h, fun _ _ _ _ _ _ _ _ _ _ _ _ _ _ _ _ r h => by simp [dyad_Num_Mul.l1] at h⟩
 | k + 1 => by
  obtain ⟨ih0, ih1, ih2⟩ := dyad_Num_Mul.mono_l k
  refine ⟨?_, ?_, ?_⟩ <;> intros <;> (first | unfold dyad_Num_Mul.j0 | unfold dyad_Num_Mul.l0 | unfold dyad_Num_Mul.l1) <;>
   repeat' with_reducible first | apply ih0 | apply ih1 | apply ih2 | apply dyad_trim.mono | exact LeO.refl _ | exact LeO.none _ | refine LeO.ite ?_ ?_ | refine LeO.bind ?_ (fun _ => ?_)
theorem dyad_Num_Mul.mono : ∀ a0 a1 a2 a3 a4 a5 k, LeO (dyad_Num_Mul.f k a0 a1 a2 a3 a4 a5) (dyad_Num_Mul.f (k + 1) a0 a1 a2 a3 a4 a5) := by
 intro a0 a1 a2 a3 a4 a5 k
 obtain ⟨ih0, ih1, ih2⟩ := dyad_Num_Mul.mono_l k
 unfold dyad_Num_Mul.f
 repeat' with_reducible first | apply ih0 | apply ih1 | apply ih2 | apply dyad_trim.mono | exact LeO.refl _ | exact LeO.none _ | refine LeO.ite ?_ ?_ | refine LeO.bind ?_ (fun _ => ?_)
set_option maxHeartbeats 8000000 in
set_option maxRecDepth 100000 in
theorem dyad_Num_Mul.calls (k : Nat) (a0_0 : Bool) (A0_1 : Option Addr) (c0_1 : Nat) (l0_1 : List Int) (a0_2 : Int) (a1_0 : Bool) (A1_1 : Option Addr) (c1_1 : Nat) (l1_1 : List Int) (a1_2 : Int) (r1 : Bool) (r2 : List Int) (r3 : Int) (w : World) (hr0_1 : Kd.C (Kd.int .u32) w A0_1 l0_1.length l0_1) (hc0_1 : l0_1.length ≤ c0_1) (hr1_1 : Kd.C (Kd.int .u32) w A1_1 l1_1.length l1_1) (hc1_1 : l1_1.length ≤ c1_1) (hT : TabW w) (h : dyad_Num_Mul.f k a0_0 l0_1 a0_2 a1_0 l1_1 a1_2 = some (r1, r2, r3)) :
  Calls Tryd.prog 10 #[.agg #[.bool a0_0, .slice A0_1 l0_1.length c0_1, .int .i64 a0_2], .agg #[.bool a1_0, .slice A1_1 l1_1.length c1_1, .int .i64 a1_2]] w fun e w' => ∃ v1_ : Value, e = .returned (.agg #[.bool r1, v1_, .int .i64 r3]) ∧ Kd.V (Kd.int .u32) 56 w' w.heap.size (fun k_ => (w.heap.size ≤ k_)) v1_ r2 ∧ Below w.heap.size w w' := by
 have hu29 := Tryd.underlying29
 have HR0_1 := Aside0.mk hr0_1
 have HC0_1 := Aside0.mk hc0_1
 clear hr0_1 hc0_1
 have HR1_1 := Aside0.mk hr1_1
 have HC1_1 := Aside0.mk hc1_1
 clear hr1_1 hc1_1
 have HB := Aside0.mk (Below.refl w.heap.size w)
 have H : (if (l0_1.length : Int) = 0 then (dyad_Num_Mul.j0 k true a0_0 l0_1 a0_2 a1_0 l1_1 a1_2) else (dyad_Num_Mul.j0 k ((l1_1.length : Int) == 0) a0_0 l0_1 a0_2 a1_0 l1_1 a1_2)) = some (r1, r2, r3) := h
 clear h
 have HC3 := Aside0.mk H
 clear H
 go_enter Tryd.func10, Tryd.ntmps10
 go_upto_region 1 with (first | ((with_reducible refine gate_dst (N := 2) rfl ?_); refine gbox (N := 2) (cs := #[.bool a0_0, .slice A0_1 l0_1.length c0_1, .int .i64 a0_2]) (t := 29) ?_; intro gb369 hg w4 hbox hb; refine ax4 (below_step bel hb) hbox ((ge hg : w.heap.size ≤ gb369)) ((ge hg : w.heap.size ≤ gb369)) ?_; clear HB; intro HB BK369 GW369 GE369; clear hb hbox hg) | ((with_reducible refine gate_dst (N := 3) rfl ?_); refine gbox (N := 3) (cs := #[.bool a1_0, .slice A1_1 l1_1.length c1_1, .int .i64 a1_2]) (t := 29) ?_; intro gb370 hg w5 hbox hb; refine ax7 (bb BK369 hb) (below_step bes hb) hbox ((ge hg : w.heap.size ≤ gb370)) ((ge hg : w.heap.size ≤ gb370)) (nl hg BK369) (ng hg BK369) ?_; clear BK369; clear HB; intro BK369 HB BK370 GW370 GE370 NB369_370 NB370_369; clear hb hbox hg) | ((with_reducible refine gate_dst (N := 4) rfl ?_); refine gbox (N := 4) (cs := #[.bool false, .slice none 0 0, .int .i64 0]) (t := 29) ?_; intro gb371 hg w6 hbox hb; refine ax10 (bb BK369 hb) (bb BK370 hb) (below_step bes hb) hbox ((ge hg : w.heap.size ≤ gb371)) ((ge hg : w.heap.size ≤ gb371)) (nl hg BK369) (ng hg BK369) (nl hg BK370) (ng hg BK370) ?_; clear BK369; clear BK370; clear HB; intro BK369 BK370 HB BK371 GW371 GE371 NB369_371 NB371_369 NB370_371 NB371_370; clear hb hbox hg))
 (try simp only [Act.put, sa0, sa1, sa2])
 go_cut [20] (fun v20 wc => ∃ (kq : Nat) (x20_2 : Bool), v20 = .bool x20_2 ∧ Aside0 (dyad_Num_Mul.j0 kq x20_2 a0_0 l0_1 a0_2 a1_0 l1_1 a1_2 = some (r1, r2, r3)) ∧ Aside0 (kq ≤ k) ∧ Aside0 (wc.heap[gb369]? = some (.cells #[.bool a0_0, (.slice A0_1 l0_1.length c0_1), .int .i64 a0_2] 29 (0, 0))) ∧ Aside0 (wc.heap[gb370]? = some (.cells #[.bool a1_0, (.slice A1_1 l1_1.length c1_1), .int .i64 a1_2] 29 (0, 0))) ∧ Aside0 (wc.heap[gb371]? = some (.cells #[.bool false, (.slice none 0 0), .int .i64 0] 29 (0, 0))) ∧ Aside0 (Below w.heap.size w wc))
 case first =>
  have H := HC3.out
  clear HC3
  by_cases c7 : (l0_1.length : Int) = 0
  ·
   rw [if_pos c7] at H
   have c7b0 : ((l0_1.length : Int) == 0) = true := beq_iff_eq.mpr c7
   have c7b1 : ((l0_1.length : Int) != 0) = false := bne_eq_false_iff_eq.mpr c7
   clear c7
   (first | rw [c7b0] | (simp only [i64_w, i32_w]; rw [c7b0]) | skip)
   have H' := Aside0.mk H
   clear H
   have hnb8 := NB369_370.out
   have hnc8 := NB370_369.out
   have hnb9 := NB369_371.out
   have hnc9 := NB371_369.out
   have hcz10_0 := bc BK369 0 rfl
   have hcz10_1 := bc BK369 1 rfl
   have hcz10_2 := bc BK369 2 rfl
   have hfz10_0 := blk_frozen BK369.out 0
   have hfz10_1 := blk_frozen BK369.out 1
   have hfz10_2 := blk_frozen BK369.out 2
   go_wp2
   go_meet
   case rel => exact ⟨_, (true), (by first | rfl | (simp; done) | (simp [*]; done)), H', ⟨by first | omega | exact Nat.le_refl _⟩, ⟨kb BK369⟩, ⟨kb BK370⟩, ⟨kb BK371⟩, ⟨bes⟩⟩
  ·
   rw [if_neg c7] at H
   have c7b0 : ((l0_1.length : Int) == 0) = false := beq_eq_false_iff_ne.mpr c7
   have c7b1 : ((l0_1.length : Int) != 0) = true := bne_iff_ne.mpr c7
   have c7b2 : ¬ (l0_1 = []) := fun h_ => c7 (by rw [h_]; rfl)
   (first | rw [c7b0] | (simp only [i64_w, i32_w]; rw [c7b0]) | skip)
   have H' := Aside0.mk H
   clear H
   have hnb11 := NB369_370.out
   have hnc11 := NB370_369.out
   have hnb12 := NB369_371.out
   have hnc12 := NB371_369.out
   have hcz13_0 := bc BK369 0 rfl
   have hcz13_1 := bc BK369 1 rfl
   have hcz13_2 := bc BK369 2 rfl
   have hfz13_0 := blk_frozen BK369.out 0
   have hfz13_1 := blk_frozen BK369.out 1
   have hfz13_2 := blk_frozen BK369.out 2
   have hnb14 := NB370_371.out
   have hnc14 := NB371_370.out
   have hcz15_0 := bc BK370 0 rfl
   have hcz15_1 := bc BK370 1 rfl
   have hcz15_2 := bc BK370 2 rfl
   have hfz15_0 := blk_frozen BK370.out 0
   have hfz15_1 := blk_frozen BK370.out 1
   have hfz15_2 := blk_frozen BK370.out 2
   go_wp2
   go_meet
   case rel => exact ⟨_, (((l1_1.length : Int) == 0)), (by first | rfl | (simp; done) | (simp [*]; done)), H', ⟨by first | omega | exact Nat.le_refl _⟩, ⟨kb BK369⟩, ⟨kb BK370⟩, ⟨kb BK371⟩, ⟨bes⟩⟩
 case rest =>
  clear HC3
  try clear c1
  try clear p2
  try clear c7
  try clear c7b0
  try clear c7b1
  try clear c7b2
  try clear c8
  try clear c9
  try clear c10
  try clear c11
  try clear c12
  try clear c14
  try clear hcz10_0
  try clear hcz10_1
  try clear hcz10_2
  try clear hcz13_0
  try clear hcz13_1
  try clear hcz13_2
  try clear hcz15_0
  try clear hcz15_1
  try clear hcz15_2
  try clear hfz10_0
  try clear hfz10_1
  try clear hfz10_2
  try clear hfz13_0
  try clear hfz13_1
  try clear hfz13_2
  try clear hfz15_0
  try clear hfz15_1
  try clear hfz15_2
  obtain ⟨kq, x20_2, rfl, HA, HJ2, BK369, BK370, BK371, HB⟩ := hcut
  cases kq with
  | zero => exact absurd HA.out (by simp [dyad_Num_Mul.j0])
  | succ kj2 =>
   have H := HA.out
   clear HA
   simp only [dyad_Num_Mul.j0] at H
   by_cases c16 : x20_2 = true
   ·
    subst c16
    rw [if_pos rfl] at H
    simp only [Option.some.injEq, Prod.mk.injEq] at H
    obtain ⟨rfl, rfl, rfl⟩ := H
    have hnb17 := NB371_369.out
    have hnc17 := NB369_371.out
    have hnb18 := NB371_370.out
    have hnc18 := NB370_371.out
    have hcz19_0 := bc BK371 0 rfl
    have hcz19_1 := bc BK371 1 rfl
    have hcz19_2 := bc BK371 2 rfl
    have hfz19_0 := blk_frozen BK371.out 0
    have hfz19_1 := blk_frozen BK371.out 1
    have hfz19_2 := blk_frozen BK371.out 2
    go_wp2
    refine bodyPost_ret (results_cell_row rfl _ _ gb371 29 #[.bool false, .slice none 0 0, .int .i64 0] (0, 0) _ rfl (by (with_reducible repeat (first | refine blk_drewN ?_ _ | refine blk_drew ?_ | refine blk_alloc ?_ _)); refine blk_put (cs := #[.bool false, .slice none 0 0, .int .i64 0]) ?_ 2 _ rfl; (with_reducible repeat (first | refine blk_drewN ?_ _ | refine blk_drew ?_ | refine blk_alloc ?_ _)); refine blk_put (cs := #[.bool false, .slice none 0 0, .int .i64 0]) ?_ 1 _ rfl; (with_reducible repeat (first | refine blk_drewN ?_ _ | refine blk_drew ?_ | refine blk_alloc ?_ _)); refine blk_put (cs := #[.bool false, .slice none 0 0, .int .i64 0]) ?_ 0 _ rfl; (with_reducible repeat (first | refine blk_drewN ?_ _ | refine blk_drew ?_ | refine blk_alloc ?_ _)); exact BK371.out) Tryd.underlying29 rfl (by kernel_rfl)) rfl ?_
    exact ⟨_, er, Kd.V_nil _ _ _ _ _, bes⟩
   ·
    replace c16 := Bool.eq_false_iff.mpr c16
    subst c16
    rw [if_neg (show ¬ (false = true) by decide)] at H
    obtain ⟨ji20, hji20⟩ : ∃ j_ : Int, (wrap64 ((l0_1.length : Int) + (l1_1.length : Int))) = j_ := ⟨_, rfl⟩
    replace H : (if 0 ≤ (ji20) then (if (ji20 : Int).toNat ≤ 70368744177664 then (dyad_Num_Mul.l0 kj2 (List.replicate (ji20 : Int).toNat 0) l0_1 (l0_1.length : Int) 0 a0_0 l0_1 a0_2 a1_0 l1_1 a1_2) else (none)) else (none)) = some (r1, r2, r3) := by first | (rw [hji20] at H; exact H) | (simp only [hji20] at H ⊢; exact H)
    have hji20w : (IntKind.i64.wrap ((l0_1.length : Int) + (l1_1.length : Int))) = ji20 := (i64_w _).trans hji20
    by_cases c21 : 0 ≤ (ji20)
    rotate_left
    ·
     rw [if_neg c21] at H
     exact absurd H (by simp)

    rw [if_pos c21] at H
    have c21b0 := eq_true c21
    have c21b1 : decide (0 ≤ (ji20)) = true := decide_eq_true c21
    clear c21
    by_cases c22 : (ji20 : Int).toNat ≤ 70368744177664
    rotate_left
    ·
     rw [if_neg c22] at H
     exact absurd H (by simp)
    rw [if_pos c22] at H
    have c22b0 := eq_true c22
    have c22b1 : decide ((ji20 : Int).toNat ≤ 70368744177664) = true := decide_eq_true c22
    clear c22
    obtain ⟨y372, hy372⟩ : ∃ y_ : List Int, y_ = (List.replicate (ji20 : Int).toNat 0) := ⟨_, rfl⟩
    replace H : (dyad_Num_Mul.l0 kj2 y372 l0_1 (l0_1.length : Int) 0 a0_0 l0_1 a0_2 a1_0 l1_1 a1_2) = some (r1, r2, r3) := by first | (rw [hy372]; with_reducible exact H) | (have H2_ := (Option.bind_some _ _).symm.trans H; rw [hy372]; with_reducible exact H2_) | (have H2_ := (Option.bind_some _ _).symm.trans H; with_reducible exact H2_) | with_reducible exact H | (rw [hy372]; exact H) | exact H
    have Ny372 := Aside0.mk hy372
    clear hy372
    have H' := Aside0.mk H
    clear H
    have hnb23 := NB369_370.out
    have hnc23 := NB370_369.out
    have hnb24 := NB369_371.out
    have hnc24 := NB371_369.out
    have hcz25_0 := bc BK369 0 rfl
    have hcz25_1 := bc BK369 1 rfl
    have hcz25_2 := bc BK369 2 rfl
    have hfz25_0 := blk_frozen BK369.out 0
    have hfz25_1 := blk_frozen BK369.out 1
    have hfz25_2 := blk_frozen BK369.out 2
    have hnb26 := NB370_371.out
    have hnc26 := NB371_370.out
    have hcz27_0 := bc BK370 0 rfl
    have hcz27_1 := bc BK370 1 rfl
    have hcz27_2 := bc BK370 2 rfl
    have hfz27_0 := blk_frozen BK370.out 0
    have hfz27_1 := blk_frozen BK370.out 1
    have hfz27_2 := blk_frozen BK370.out 2
    go_wp2_with (first | ((with_reducible refine gate_dst (N := 29) rfl ?_); refine Kd.R_make (Kd.int .u32) _ 56 rfl (N := 29) rfl 27 _ _ rfl ji20 rfl rfl Tryd.underlying27 (.int .u32 0) 4 info56 rfl (by decide) (by omega) 0 (ok := fun _ => True) (okp := fun _ => True) rfl (fun _ hk => hk) trivial (of_decide_eq_true (by first | (with_reducible assumption) | assumption)) (Nat.le_trans (Nat.mul_le_mul_right _ (of_decide_eq_true (by first | (with_reducible assumption) | assumption) : ji20.toNat ≤ 70368744177664)) (by omega)) (Below.refl _ _) (Nat.le_refl _) ?_; intro v373 w28 ho29 hb hg_ hnew_; clear hg_ hnew_; (first | rw [← Ny372.out] at ho29 | (simp only [Int.reduceToNat] at ho29; rw [← Ny372.out] at ho29)); refine ax5 (Kd.R_lower (Kd.R_newM (M := fun k_ => (w.heap.size ≤ k_)) ho29 (below_size bes) (fun k_ h_ => h_)) (below_size bes)) (bb BK369 hb) (bb BK370 hb) (bb BK371 hb) (below_step bes hb) ?_; clear BK369; clear BK370; clear BK371; clear HB; intro HO374 BK369 BK370 BK371 HB; clear hb ho29; have hcz30_0 := bc BK369 0 rfl; have hcz30_1 := bc BK369 1 rfl; have hcz30_2 := bc BK369 2 rfl; have hfz30_0 := blk_frozen BK369.out 0; have hfz30_1 := blk_frozen BK369.out 1; have hfz30_2 := blk_frozen BK369.out 2))
    go_loopg [33] kj2 (fun kq v33 w' => ∃ (x5_2 : List Int) (x33_2 : Int), v33 = .int .i64 x33_2 ∧ Aside0 (dyad_Num_Mul.l0 kq x5_2 l0_1 (l0_1.length : Int) x33_2 a0_0 l0_1 a0_2 a1_0 l1_1 a1_2 = some (r1, r2, r3)) ∧ Aside0 (kq ≤ kj2) ∧ Aside0 (Kd.R (Kd.int .u32) 56 w' w.heap.size (fun k_ => (w.heap.size ≤ k_)) v373 x5_2) ∧ Aside0 (w'.heap[gb369]? = some (.cells #[.bool a0_0, (.slice A0_1 l0_1.length c0_1), .int .i64 a0_2] 29 (0, 0))) ∧ Aside0 (w'.heap[gb370]? = some (.cells #[.bool a1_0, (.slice A1_1 l1_1.length c1_1), .int .i64 a1_2] 29 (0, 0))) ∧ Aside0 (w'.heap[gb371]? = some (.cells #[.bool false, (.slice none 0 0), .int .i64 0] 29 (0, 0))) ∧ Aside0 (Below w.heap.size w w'))
    case atStart => exact ⟨(y372), (0), (by first | rfl | (simp; done) | (simp [*]; done)), H', ⟨Nat.le_refl _⟩, ⟨by (with_reducible repeat (first | apply Kd.R_alloc | apply Kd.R_drewN | apply Kd.R_drew)); exact Kd.R_mono HO374.out (fun _ hk => hk.1)⟩, ⟨kb BK369⟩, ⟨kb BK370⟩, ⟨kb BK371⟩, ⟨bes⟩⟩
    case round =>
     clear H'
     try clear c1
     try clear c2
     try clear p2
     try clear p6
     try clear c7
     try clear c7b0
     try clear c7b1
     try clear c7b2
     try clear c8
     try clear c9
     try clear c10
     try clear c11
     try clear c12
     try clear c14
     try clear c16
     try clear c17
     try clear c18
     try clear c21
     try clear c21b0
     try clear c21b1
     try clear c22
     try clear c22b0
     try clear c22b1
     try clear c23
     try clear c24
     try clear c26
     try clear hcz10_0
     try clear hcz10_1
     try clear hcz10_2
     try clear hcz13_0
     try clear hcz13_1
     try clear hcz13_2
     try clear hcz15_0
     try clear hcz15_1
     try clear hcz15_2
     try clear hcz19_0
     try clear hcz19_1
     try clear hcz19_2
     try clear hcz25_0
     try clear hcz25_1
     try clear hcz25_2
     try clear hcz27_0
     try clear hcz27_1
     try clear hcz27_2
     try clear hcz30_0
     try clear hcz30_1
     try clear hcz30_2
     try clear hfz10_0
     try clear hfz10_1
     try clear hfz10_2
     try clear hfz13_0
     try clear hfz13_1
     try clear hfz13_2
     try clear hfz15_0
     try clear hfz15_1
     try clear hfz15_2
     try clear hfz19_0
     try clear hfz19_1
     try clear hfz19_2
     try clear hfz25_0
     try clear hfz25_1
     try clear hfz25_2
     try clear hfz27_0
     try clear hfz27_1
     try clear hfz27_2
     try clear hfz30_0
     try clear hfz30_1
     try clear hfz30_2
     try clear p2
     obtain ⟨x5_2, x33_2, rfl, HA, HK2, HO_5, BK369, BK370, BK371, HB⟩ := hrel
     cases gk with
     | zero => exact absurd HA.out (by simp [dyad_Num_Mul.l0])
     | succ k2 =>
      have H := HA.out
      clear HA
      simp only [dyad_Num_Mul.l0] at H
      by_cases c31 : x33_2 < (l0_1.length : Int)
      ·
       rw [if_pos c31] at H
       have c31b0 : decide (x33_2 < (l0_1.length : Int)) = true := decide_eq_true c31
       clear c31
       by_cases c32 : 0 ≤ x33_2
       rotate_left
       ·
        rw [if_neg c32] at H
        exact absurd H (by simp)
       rw [if_pos c32] at H
       have c32b0 : decide (0 ≤ x33_2) = true := decide_eq_true c32
       clear c32
       by_cases c33 : x33_2 < (l0_1.length : Int)
       rotate_left
       ·
        rw [if_neg c33] at H
        exact absurd H (by simp)
       rw [if_pos c33] at H
       have c33b0 : decide (x33_2 < (l0_1.length : Int)) = true := decide_eq_true c33
       clear c33
       have H' := Aside0.mk H
       clear H
       have p380 : 0 ≤ (x33_2 : Int) := of_decide_eq_true (by first | (with_reducible assumption) | assumption)
       have q380 : x33_2 < (l0_1.length : Int) := of_decide_eq_true (by first | (with_reducible assumption) | assumption)
       obtain ⟨ad380, e380, hx380_0⟩ := Kd.at_int HR0_1.out x33_2 p380 q380
       cases e380
       replace hx380_0 := (HB.out.cell (World.block_lt_of_cell? w _ hx380_0)).trans hx380_0
       replace p380 := eq_true p380
       replace q380 := eq_true q380
       have hnb34 := NB370_369.out
       have hnc34 := NB369_370.out
       have hnb35 := NB370_371.out
       have hnc35 := NB371_370.out
       have hcz36_0 := bc BK370 0 rfl
       have hcz36_1 := bc BK370 1 rfl
       have hcz36_2 := bc BK370 2 rfl
       have hfz36_0 := blk_frozen BK370.out 0
       have hfz36_1 := blk_frozen BK370.out 1
       have hfz36_2 := blk_frozen BK370.out 2
       go_wp2
       go_loopg [8, 41] k2 (fun kq v8 v41 w' => ∃ (x5_3 : List Int) (x8_3 : Int) (x41_3 : Int), v8 = .int .u64 x8_3 ∧ v41 = .int .i64 x41_3 ∧ Aside0 (dyad_Num_Mul.l1 kq x5_3 x33_2 (rd l0_1 x33_2) x8_3 l0_1 (l0_1.length : Int) x33_2 l1_1 (l1_1.length : Int) x41_3 a0_0 l0_1 a0_2 a1_0 l1_1 a1_2 = some (r1, r2, r3)) ∧ Aside0 (kq ≤ k2) ∧ Aside0 (Kd.R (Kd.int .u32) 56 w' w.heap.size (fun k_ => (w.heap.size ≤ k_)) v373 x5_3) ∧ Aside0 (w'.heap[gb369]? = some (.cells #[.bool a0_0, (.slice (some ad380) l0_1.length c0_1), .int .i64 a0_2] 29 (0, 0))) ∧ Aside0 (w'.heap[gb370]? = some (.cells #[.bool a1_0, (.slice A1_1 l1_1.length c1_1), .int .i64 a1_2] 29 (0, 0))) ∧ Aside0 (w'.heap[gb371]? = some (.cells #[.bool false, (.slice none 0 0), .int .i64 0] 29 (0, 0))) ∧ Aside0 (Below w.heap.size w w'))
       case atStart => exact ⟨(x5_2), (0), (0), (by first | rfl | (simp; done) | (simp [*]; done)), (by first | rfl | (simp; done) | (simp [*]; done)), H', ⟨Nat.le_refl _⟩, ⟨kr HO_5⟩, ⟨kb BK369⟩, ⟨kb BK370⟩, ⟨kb BK371⟩, ⟨bes⟩⟩
       case round =>
        clear H'
        try clear c1
        try clear c2
        try clear p2
        try clear c3
        try clear p3
        try clear q3
        try clear hx3
        try clear p6
        try clear c7
        try clear c7b0
        try clear c7b1
        try clear c7b2
        try clear c8
        try clear c9
        try clear c10
        try clear c11
        try clear c12
        try clear c14
        try clear c16
        try clear c17
        try clear c18
        try clear c21
        try clear c21b0
        try clear c21b1
        try clear c22
        try clear c22b0
        try clear c22b1
        try clear c23
        try clear c24
        try clear c26
        try clear c31
        try clear c31b0
        try clear c32
        try clear c32b0
        try clear c33
        try clear c33b0
        try clear c34
        try clear c35
        try clear hcz10_0
        try clear hcz10_1
        try clear hcz10_2
        try clear hcz13_0
        try clear hcz13_1
        try clear hcz13_2
        try clear hcz15_0
        try clear hcz15_1
        try clear hcz15_2
        try clear hcz19_0
        try clear hcz19_1
        try clear hcz19_2
        try clear hcz25_0
        try clear hcz25_1
        try clear hcz25_2
        try clear hcz27_0
        try clear hcz27_1
        try clear hcz27_2
        try clear hcz30_0
        try clear hcz30_1
        try clear hcz30_2
        try clear hcz36_0
        try clear hcz36_1
        try clear hcz36_2
        try clear hfz10_0
        try clear hfz10_1
        try clear hfz10_2
        try clear hfz13_0
        try clear hfz13_1
        try clear hfz13_2
        try clear hfz15_0
        try clear hfz15_1
        try clear hfz15_2
        try clear hfz19_0
        try clear hfz19_1
        try clear hfz19_2
        try clear hfz25_0
        try clear hfz25_1
        try clear hfz25_2
        try clear hfz27_0
        try clear hfz27_1
        try clear hfz27_2
        try clear hfz30_0
        try clear hfz30_1
        try clear hfz30_2
        try clear hfz36_0
        try clear hfz36_1
        try clear hfz36_2
        try clear hx380_0
        try clear p2
        try clear p380
        try clear p6
        try clear q380
        obtain ⟨x5_3, x8_3, x41_3, rfl, rfl, HA, HK3, HO_5, BK369, BK370, BK371, HB⟩ := hrel
        cases gk with
        | zero => exact absurd HA.out (by simp [dyad_Num_Mul.l1])
        | succ k3 =>
         have H := HA.out
         clear HA
         simp only [dyad_Num_Mul.l1] at H
         by_cases c37 : x41_3 < (l1_1.length : Int)
         ·
          rw [if_pos c37] at H
          have c37b0 : decide (x41_3 < (l1_1.length : Int)) = true := decide_eq_true c37
          clear c37
          by_cases c38 : 0 ≤ x41_3
          rotate_left
          ·
           rw [if_neg c38] at H
           exact absurd H (by simp)
          rw [if_pos c38] at H
          have c38b0 : decide (0 ≤ x41_3) = true := decide_eq_true c38
          clear c38
          by_cases c39 : x41_3 < (l1_1.length : Int)
          rotate_left
          ·
           rw [if_neg c39] at H
           exact absurd H (by simp)
          rw [if_pos c39] at H
          have c39b0 : decide (x41_3 < (l1_1.length : Int)) = true := decide_eq_true c39
          clear c39
          obtain ⟨ji40, hji40⟩ : ∃ j_ : Int, (wrap64 (x33_2 + x41_3)) = j_ := ⟨_, rfl⟩
          replace H : (if 0 ≤ (ji40) then (if (ji40) < (x5_3.length : Int) then (dyad_Num_Mul.l1 k3 (x5_3.set ((ji40) : Int).toNat ((IntKind.u64.wrap (x8_3 + (IntKind.u64.wrap ((IntKind.u64.wrap (rd x5_3 (ji40))) + (IntKind.u64.wrap ((IntKind.u64.wrap ((rd l0_1 x33_2))) * (IntKind.u64.wrap (rd l1_1 x41_3)))))))) % 4294967296)) x33_2 (rd l0_1 x33_2) ((IntKind.u64.wrap (x8_3 + (IntKind.u64.wrap ((IntKind.u64.wrap (rd x5_3 (ji40))) + (IntKind.u64.wrap ((IntKind.u64.wrap ((rd l0_1 x33_2))) * (IntKind.u64.wrap (rd l1_1 x41_3)))))))) / 4294967296) l0_1 (l0_1.length : Int) x33_2 l1_1 (l1_1.length : Int) (wrap64 (x41_3 + 1)) a0_0 l0_1 a0_2 a1_0 l1_1 a1_2) else (none)) else (none)) = some (r1, r2, r3) := by first | (rw [hji40] at H; exact H) | (simp only [hji40] at H ⊢; exact H)
          have hji40w : (IntKind.i64.wrap (x33_2 + x41_3)) = ji40 := (i64_w _).trans hji40
          by_cases c41 : 0 ≤ (ji40)
          rotate_left
          ·
           rw [if_neg c41] at H
           exact absurd H (by simp)
          rw [if_pos c41] at H
          have c41b0 : decide (0 ≤ (ji40)) = true := decide_eq_true c41
          clear c41
          by_cases c42 : (ji40) < (x5_3.length : Int)
          rotate_left
          ·
           rw [if_neg c42] at H
           exact absurd H (by simp)
          rw [if_pos c42] at H
          have c42b0 : decide ((ji40) < (x5_3.length : Int)) = true := decide_eq_true c42
          clear c42
          obtain ⟨y383, hy383⟩ : ∃ y_ : List Int, y_ = (x5_3.set ((ji40) : Int).toNat ((IntKind.u64.wrap (x8_3 + (IntKind.u64.wrap ((IntKind.u64.wrap (rd x5_3 (ji40))) + (IntKind.u64.wrap ((IntKind.u64.wrap ((rd l0_1 x33_2))) * (IntKind.u64.wrap (rd l1_1 x41_3)))))))) % 4294967296)) := ⟨_, rfl⟩
          replace H : (dyad_Num_Mul.l1 k3 y383 x33_2 (rd l0_1 x33_2) ((IntKind.u64.wrap (x8_3 + (IntKind.u64.wrap ((IntKind.u64.wrap (rd x5_3 (ji40))) + (IntKind.u64.wrap ((IntKind.u64.wrap ((rd l0_1 x33_2))) * (IntKind.u64.wrap (rd l1_1 x41_3)))))))) / 4294967296) l0_1 (l0_1.length : Int) x33_2 l1_1 (l1_1.length : Int) (wrap64 (x41_3 + 1)) a0_0 l0_1 a0_2 a1_0 l1_1 a1_2) = some (r1, r2, r3) := by first | (rw [hy383]; with_reducible exact H) | (have H2_ := (Option.bind_some _ _).symm.trans H; rw [hy383]; with_reducible exact H2_) | (have H2_ := (Option.bind_some _ _).symm.trans H; with_reducible exact H2_) | with_reducible exact H | (rw [hy383]; exact H) | exact H
          have Ny383 := Aside0.mk hy383
          clear hy383
          have H' := Aside0.mk H
          clear H
          have p381 : 0 ≤ (x41_3 : Int) := of_decide_eq_true (by first | (with_reducible assumption) | assumption)
          have q381 : x41_3 < (l1_1.length : Int) := of_decide_eq_true (by first | (with_reducible assumption) | assumption)
          obtain ⟨ad381, e381, hx381_0⟩ := Kd.at_int HR1_1.out x41_3 p381 q381
          cases e381
          replace hx381_0 := (HB.out.cell (World.block_lt_of_cell? w _ hx381_0)).trans hx381_0
          replace p381 := eq_true p381
          replace q381 := eq_true q381
          obtain ⟨Ao44, co44, eo44⟩ := Kd.R_slice HO_5.out
          subst eo44
          have p382 : 0 ≤ ((ji40) : Int) := of_decide_eq_true (by first | (with_reducible assumption) | assumption)
          have q382 : (ji40) < (x5_3.length : Int) := of_decide_eq_true (by first | (with_reducible assumption) | assumption)
          obtain ⟨ad382, e382, hx382_0⟩ := Kd.at_int (Kd.R_reads' HO_5.out).2.2 (ji40) p382 q382
          cases e382
          replace p382 := eq_true p382
          replace q382 := eq_true q382
          have p43 : 0 ≤ ((ji40) : Int) := of_decide_eq_true (by first | (with_reducible assumption) | assumption)
          have q43 : ((ji40) : Int) < ((x5_3.length : Int) : Int) := of_decide_eq_true (by first | (with_reducible assumption) | assumption)
          obtain ⟨go43, co43, eo43, gb43, gl43, cl43, HG43⟩ := Kd.R_form HO_5.out (by omega)
          (first | cases eo43 | (injection eo43 with ea_ en_ ec_; (first | subst ea_ | (injection ea_ with ea_; subst ea_)); subst ec_; clear en_))
          have GB43 := Aside0.mk gb43
          have GG43 := Aside0.mk HG43
          clear gb43 gl43 HG43
          (first | simp only [add_plain] at hx382_0 | skip)
          obtain ⟨hx43_0, hf43_0⟩ := Kd.R_celln 0 HO_5.out ((ji40) : Int) p43 q43
          replace p43 := eq_true p43
          replace q43 := eq_true q43
          have HP45 := Kd.R_putg HO_5.out ((ji40) : Int) ((IntKind.u64.wrap (x8_3 + (IntKind.u64.wrap ((IntKind.u64.wrap (rd x5_3 (ji40))) + (IntKind.u64.wrap ((IntKind.u64.wrap ((rd l0_1 x33_2))) * (IntKind.u64.wrap (rd l1_1 x41_3)))))))) % 4294967296)
          go_wp2_with (first | ((with_reducible refine gate_store (t := 56) (p := 69) rfl ?_); refine store_event (t := 56) (p := 69) (v := ?vo_w46) (w1 := (wr.setCell ⟨go43, ((ji40) : Int).toNat, none⟩ (.int .u32 ((IntKind.u64.wrap (x8_3 + (IntKind.u64.wrap ((IntKind.u64.wrap (rd x5_3 (ji40))) + (IntKind.u64.wrap ((IntKind.u64.wrap ((rd l0_1 x33_2))) * (IntKind.u64.wrap (rd l1_1 x41_3)))))))) % 4294967296)))) ?hg ?ho ?hn ?hr ?_; (case ho => rfl); (case hg => rfl); (case hn => rfl); (case hr => first | (go_simp; done) | (go_simp; rfl)); intro w46 hw; have hg : wr.grownBy w46 (some go43) := (by rw [hw]; exact HP45.2); have hp_ : Kd.R (Kd.int .u32) 56 w46 w.heap.size (fun k_ => (w.heap.size ≤ k_)) (.slice (some ⟨go43, 0, none⟩) x5_3.length co44) y383 := (by rw [hw, Ny383.out]; exact HP45.1); clear HP45; refine ax5 hp_ (blk_grown (g := gb369) (o := .cells #[.bool a0_0, .slice (some ad380) l0_1.length c0_1, .int .i64 a0_2] 29 (0, 0)) (kb BK369) hg (Kd.R_ne HO_5.out BK369.out (by decide))) (blk_grown (g := gb370) (o := .cells #[.bool a1_0, .slice (some ad381) l1_1.length c1_1, .int .i64 a1_2] 29 (0, 0)) (kb BK370) hg (Kd.R_ne HO_5.out BK370.out (by decide))) (blk_grown (g := gb371) (o := .cells #[.bool false, .slice none 0 0, .int .i64 0] 29 (0, 0)) (kb BK371) hg (Kd.R_ne HO_5.out BK371.out (by decide))) ((by rw [hw]; exact below_set (HB.out) GB43.out : Below w.heap.size w w46)) ?_; clear HO_5; clear BK369; clear BK370; clear BK371; clear HB; intro HO_5 BK369 BK370 BK371 HB; clear hg hw hp_))
          go_roundg k3
          case measure => have := HJ2.out; have := HK2.out; have := HK3.out; omega
          case rel => exact ⟨(y383), ((IntKind.u64.wrap (x8_3 + (IntKind.u64.wrap ((IntKind.u64.wrap (rd x5_3 (ji40))) + (IntKind.u64.wrap ((IntKind.u64.wrap ((rd l0_1 x33_2))) * (IntKind.u64.wrap (rd l1_1 x41_3)))))))) / 4294967296), (wrap64 (x41_3 + 1)), (by first | rfl | (simp; done) | (simp only [← hji40] <;> (first | rfl | simp)) | (simp [*]; done)), (by first | rfl | (simp; done) | (simp [*]; done)), H', ⟨by have := HJ2.out; have := HK2.out; have := HK3.out; omega⟩, ⟨kr HO_5⟩, ⟨kb BK369⟩, ⟨kb BK370⟩, ⟨kb BK371⟩, ⟨bes⟩⟩
         ·
          rw [if_neg c37] at H
          have c37b0 : decide (x41_3 < (l1_1.length : Int)) = false := decide_eq_false c37
          clear c37
          obtain ⟨ji47, hji47⟩ : ∃ j_ : Int, (wrap64 (x33_2 + (l1_1.length : Int))) = j_ := ⟨_, rfl⟩
          replace H : (if 0 ≤ (ji47) then (if (ji47) < (x5_3.length : Int) then (dyad_Num_Mul.l0 k3 (x5_3.set ((ji47) : Int).toNat ((x8_3) % 4294967296)) l0_1 (l0_1.length : Int) (wrap64 (x33_2 + 1)) a0_0 l0_1 a0_2 a1_0 l1_1 a1_2) else (none)) else (none)) = some (r1, r2, r3) := by first | (rw [hji47] at H; exact H) | (simp only [hji47] at H ⊢; exact H)
          have hji47w : (IntKind.i64.wrap (x33_2 + (l1_1.length : Int))) = ji47 := (i64_w _).trans hji47
          by_cases c48 : 0 ≤ (ji47)
          rotate_left
          ·
           rw [if_neg c48] at H
           exact absurd H (by simp)
          rw [if_pos c48] at H
          have c48b0 : decide (0 ≤ (ji47)) = true := decide_eq_true c48
          clear c48
          by_cases c49 : (ji47) < (x5_3.length : Int)
          rotate_left
          ·
           rw [if_neg c49] at H
           exact absurd H (by simp)
          rw [if_pos c49] at H
          have c49b0 : decide ((ji47) < (x5_3.length : Int)) = true := decide_eq_true c49
          clear c49
          obtain ⟨y384, hy384⟩ : ∃ y_ : List Int, y_ = (x5_3.set ((ji47) : Int).toNat ((x8_3) % 4294967296)) := ⟨_, rfl⟩
          replace H : (dyad_Num_Mul.l0 k3 y384 l0_1 (l0_1.length : Int) (wrap64 (x33_2 + 1)) a0_0 l0_1 a0_2 a1_0 l1_1 a1_2) = some (r1, r2, r3) := by first | (rw [hy384]; with_reducible exact H) | (have H2_ := (Option.bind_some _ _).symm.trans H; rw [hy384]; with_reducible exact H2_) | (have H2_ := (Option.bind_some _ _).symm.trans H; with_reducible exact H2_) | with_reducible exact H | (rw [hy384]; exact H) | exact H
          have Ny384 := Aside0.mk hy384
          clear hy384
          have H' := Aside0.mk H
          clear H
          have hnb51 := NB370_369.out
          have hnc51 := NB369_370.out
          have hnb52 := NB370_371.out
          have hnc52 := NB371_370.out
          have hcz53_0 := bc BK370 0 rfl
          have hcz53_1 := bc BK370 1 rfl
          have hcz53_2 := bc BK370 2 rfl
          have hfz53_0 := blk_frozen BK370.out 0
          have hfz53_1 := blk_frozen BK370.out 1
          have hfz53_2 := blk_frozen BK370.out 2
          have p50 : 0 ≤ ((ji47) : Int) := of_decide_eq_true (by first | (with_reducible assumption) | assumption)
          have q50 : ((ji47) : Int) < ((x5_3.length : Int) : Int) := of_decide_eq_true (by first | (with_reducible assumption) | assumption)
          obtain ⟨go50, co50, eo50, gb50, gl50, cl50, HG50⟩ := Kd.R_form HO_5.out (by omega)
          (first | cases eo50 | (injection eo50 with ea_ en_ ec_; (first | subst ea_ | (injection ea_ with ea_; subst ea_)); subst ec_; clear en_))
          have GB50 := Aside0.mk gb50
          have GG50 := Aside0.mk HG50
          clear gb50 gl50 HG50
          obtain ⟨hx50_0, hf50_0⟩ := Kd.R_celln 0 HO_5.out ((ji47) : Int) p50 q50
          replace p50 := eq_true p50
          replace q50 := eq_true q50
          have HP54 := Kd.R_putg HO_5.out ((ji47) : Int) ((x8_3) % 4294967296)
          go_wp2_with (first | ((with_reducible refine gate_store (t := 56) (p := 79) rfl ?_); refine store_event (t := 56) (p := 79) (v := ?vo_w55) (w1 := (wr.setCell ⟨go50, ((ji47) : Int).toNat, none⟩ (.int .u32 ((x8_3) % 4294967296)))) ?hg ?ho ?hn ?hr ?_; (case ho => rfl); (case hg => rfl); (case hn => rfl); (case hr => first | (go_simp; done) | (go_simp; rfl)); intro w55 hw; have hg : wr.grownBy w55 (some go50) := (by rw [hw]; exact HP54.2); have hp_ : Kd.R (Kd.int .u32) 56 w55 w.heap.size (fun k_ => (w.heap.size ≤ k_)) (.slice (some ⟨go50, 0, none⟩) x5_3.length co50) y384 := (by rw [hw, Ny384.out]; exact HP54.1); clear HP54; refine ax5 hp_ (blk_grown (g := gb369) (o := .cells #[.bool a0_0, .slice (some ad380) l0_1.length c0_1, .int .i64 a0_2] 29 (0, 0)) (kb BK369) hg (Kd.R_ne HO_5.out BK369.out (by decide))) (blk_grown (g := gb370) (o := .cells #[.bool a1_0, .slice A1_1 l1_1.length c1_1, .int .i64 a1_2] 29 (0, 0)) (kb BK370) hg (Kd.R_ne HO_5.out BK370.out (by decide))) (blk_grown (g := gb371) (o := .cells #[.bool false, .slice none 0 0, .int .i64 0] 29 (0, 0)) (kb BK371) hg (Kd.R_ne HO_5.out BK371.out (by decide))) ((by rw [hw]; exact below_set (HB.out) GB50.out : Below w.heap.size w w55)) ?_; clear HO_5; clear BK369; clear BK370; clear BK371; clear HB; intro HO_5 BK369 BK370 BK371 HB; clear hg hw hp_))
          go_roundg k3
          case measure => have := HJ2.out; have := HK2.out; have := HK3.out; omega
          case rel => exact ⟨(y384), (wrap64 (x33_2 + 1)), (by first | rfl | (simp; done) | (simp [*]; done)), H', ⟨by have := HJ2.out; have := HK2.out; have := HK3.out; omega⟩, ⟨kr HO_5⟩, ⟨kb BK369⟩, ⟨kb BK370⟩, ⟨kb BK371⟩, ⟨bes⟩⟩
      ·
       rw [if_neg c31] at H
       have c31b0 : decide (x33_2 < (l0_1.length : Int)) = false := decide_eq_false c31
       clear c31
       obtain ⟨⟨t375, t376, t379⟩, A560, H⟩ := Option.bind_eq_some_iff.mp H
       (try dsimp -simprocs only at H)
       have A56 := Aside0.mk A560
       clear A560
       simp only [Option.some.injEq, Prod.mk.injEq] at H
       obtain ⟨rfl, rfl, rfl⟩ := H
       have hnb57 := NB369_370.out
       have hnc57 := NB370_369.out
       have hnb58 := NB369_371.out
       have hnc58 := NB371_369.out
       have hcz59_0 := bc BK369 0 rfl
       have hcz59_1 := bc BK369 1 rfl
       have hcz59_2 := bc BK369 2 rfl
       have hfz59_0 := blk_frozen BK369.out 0
       have hfz59_1 := blk_frozen BK369.out 1
       have hfz59_2 := blk_frozen BK369.out 2
       have hnb60 := NB370_371.out
       have hnc60 := NB371_370.out
       have hcz61_0 := bc BK370 0 rfl
       have hcz61_1 := bc BK370 1 rfl
       have hcz61_2 := bc BK370 2 rfl
       have hfz61_0 := blk_frozen BK370.out 0
       have hfz61_1 := blk_frozen BK370.out 1
       have hfz61_2 := blk_frozen BK370.out 2
       obtain ⟨Ao62, co62, eo62⟩ := Kd.R_slice HO_5.out
       subst eo62
       go_wp2_with (first | ((with_reducible refine gate_callee (f := 27) rfl ?_); refine goesL_ (some 92) rfl rfl Tryd.func27 (by kernel_rfl) rfl #[.bool (a0_0 != a1_0), .slice Ao62 x5_2.length co62, .int .i64 (wrap64 (a0_2 + a1_2))] rfl ga ?_; (with_reducible refine (dyad_trim.calls k2 (a0_0 != a1_0) (fun k_ => some k_ = (.slice Ao62 x5_2.length co62 : Value).ownBlock) _ _ x5_2 (wrap64 (a0_2 + a1_2)) t375 t376 t379 _ ?side1 ?side2 A56.out).mono ?_); (case side1 => exact Kd.R_V (Kd.R_tight rfl (Kd.R_types (Kd.R_types (Kd.R_types (HO_5.out) BK369.out (by decide)) BK370.out (by decide)) BK371.out (by decide)))); (case side2 => first | exact hT | exact TabW.drewN hT _ | exact TabW.drew hT | exact TabW.below hT bes); rintro e w63 ⟨v377, rfl, ho0, hb⟩; refine ⟨_, rfl, ?_⟩; refine ax6 (Kd.R_below (kr HO_5) hb) (Kd.V_lower (Kd.V_mono (ok' := fun k_ => (w.heap.size ≤ k_) ∧ k_ ≠ gb369 ∧ k_ ≠ gb370 ∧ k_ ≠ gb371) ho0 (fun k_ hk_ => ⟨Or.elim hk_ (fun hs_ => ((Kd.R_types (Kd.R_types (Kd.R_types (HO_5.out) BK369.out (by decide)) BK370.out (by decide)) BK371.out (by decide)).1 k_ hs_.symm).1.1.1) (fun hn_ => (Nat.le_trans (below_size bes) hn_)), Or.elim hk_ (fun hs_ => ((Kd.R_types (Kd.R_types (Kd.R_types (HO_5.out) BK369.out (by decide)) BK370.out (by decide)) BK371.out (by decide)).1 k_ hs_.symm).1.1.2) (fun hn_ => (fb BK369 k_ hn_)), Or.elim hk_ (fun hs_ => ((Kd.R_types (Kd.R_types (Kd.R_types (HO_5.out) BK369.out (by decide)) BK370.out (by decide)) BK371.out (by decide)).1 k_ hs_.symm).1.2) (fun hn_ => (fb BK370 k_ hn_)), Or.elim hk_ (fun hs_ => ((Kd.R_types (Kd.R_types (Kd.R_types (HO_5.out) BK369.out (by decide)) BK370.out (by decide)) BK371.out (by decide)).1 k_ hs_.symm).2) (fun hn_ => (fb BK371 k_ hn_))⟩)) (below_size bes)) (bb BK369 hb) (bb BK370 hb) (bb BK371 hb) (below_step bes hb) ?_; clear HO_5; clear BK369; clear BK370; clear BK371; clear HB; intro HO_5 HO378 BK369 BK370 BK371 HB; (try clear hb); (try clear ho0); have hcz64_0 := bc BK371 0 rfl; have hcz64_1 := bc BK371 1 rfl; have hcz64_2 := bc BK371 2 rfl; have hfz64_0 := blk_frozen BK371.out 0; have hfz64_1 := blk_frozen BK371.out 1; have hfz64_2 := blk_frozen BK371.out 2; obtain ⟨Ao65, co65, eo65⟩ := Kd.V_slice HO378.out; subst eo65))
       refine bodyPost_ret (results_cell_row rfl _ _ gb371 29 #[.bool t375, .slice Ao65 t376.length co65, .int .i64 t379] (0, 0) _ rfl (by (with_reducible repeat (first | refine blk_drewN ?_ _ | refine blk_drew ?_ | refine blk_alloc ?_ _)); refine blk_put (cs := #[.bool t375, .slice Ao65 t376.length co65, .int .i64 0]) ?_ 2 _ rfl; (with_reducible repeat (first | refine blk_drewN ?_ _ | refine blk_drew ?_ | refine blk_alloc ?_ _)); refine blk_put (cs := #[.bool t375, .slice none 0 0, .int .i64 0]) ?_ 1 _ rfl; (with_reducible repeat (first | refine blk_drewN ?_ _ | refine blk_drew ?_ | refine blk_alloc ?_ _)); refine blk_put (cs := #[.bool false, .slice none 0 0, .int .i64 0]) ?_ 0 _ rfl; (with_reducible repeat (first | refine blk_drewN ?_ _ | refine blk_drew ?_ | refine blk_alloc ?_ _)); exact BK371.out) Tryd.underlying29 rfl (by kernel_rfl)) rfl ?_
       exact ⟨_, by first | rfl | (simp [errW_none, errW_some] <;> rfl) | (simp only [← hji20]; first | rfl | (simp [errW_none, errW_some] <;> rfl)) | (simp [*, errW_none, errW_some] <;> rfl), by (with_reducible repeat (first | apply Kd.V_alloc | apply Kd.V_drewN | apply Kd.V_drew)); exact Kd.V_mono (Kd.V_far (p := ⟨gb371, 2, none⟩) (Kd.V_far (p := ⟨gb371, 1, none⟩) (Kd.V_far (p := ⟨gb371, 0, none⟩) (Kd.V_mono HO378.out (fun k_ hk => (⟨hk, hk.2.2.2⟩ : _ ∧ k_ ≠ gb371))) (fun _ hk => hk.2) (.bool t375)) (fun _ hk => hk.2) (.slice Ao65 t376.length co65)) (fun _ hk => hk.2) (.int .i64 t379)) (fun _ hk => hk.1.1), bes⟩
/-! ### mat_Matrix_Square: function 12 -/
mutual
def mat_Matrix_Square.l0 : Nat → Int → Int → Int → Int → Int → List Int → Bool → List Int → Int → Option (Bool × List Int × Int)
 | 0, _, _, _, _, _, _, _, _, _ => none
 | k + 1, x9, x10, x386000, x386001, x386002, x386003, x388000, x388001, x388002 => if x10 < x9 then (mat_Matrix_Square.l1 k x10 x9 x10 x386001 0 x386000 x386001 x386002 x386003 x388000 x388001 x388002) else (some (x388000, x388001, x388002))
def mat_Matrix_Square.l1 : Nat → Int → Int → Int → Int → Int → Int → Int → Int → List Int → Bool → List Int → Int → Option (Bool × List Int × Int)
 | 0, _, _, _, _, _, _, _, _, _, _, _, _ => none
 | k + 1, x4, x9, x10, x14, x15, x386000, x386001, x386002, x386003, x388000, x388001, x388002 => if x15 < x14 then ((mat_Matrix_At.f x386000 x386001 x386002 x386003 x4 x15).bind fun t388 => ((dyad_Of.f k t388).bind fun bt389 => ((dyad_Num_Mul.f k bt389.1 bt389.2.1 bt389.2.2.1 bt389.1 bt389.2.1 bt389.2.2.1).bind fun bt396 => ((dyad_Num_Add.f k x388000 x388001 x388002 bt396.1 bt396.2.1 bt396.2.2).bind fun bt401 => (mat_Matrix_Square.l1 k x4 x9 x10 x14 (wrap64 (x15 + 1)) x386000 x386001 x386002 x386003 bt401.1 bt401.2.1 bt401.2.2))))) else (mat_Matrix_Square.l0 k x9 (wrap64 (x10 + 1)) x386000 x386001 x386002 x386003 x388000 x388001 x388002)
end
def mat_Matrix_Square.f (k : Nat) (a0_0 : Int) (a0_1 : Int) (a0_2 : Int) (l0_3 : List Int) : Option (Bool × List Int × Int) := mat_Matrix_Square.l0 k a0_0 0 a0_0 a0_1 a0_2 l0_3 false ([] : List Int) 0
theorem mat_Matrix_Square.mono_l : ∀ k, (∀ y0 y1 y2 y3 y4 y5 y6 y7 y8, LeO (mat_Matrix_Square.l0 k y0 y1 y2 y3 y4 y5 y6 y7 y8) (mat_Matrix_Square.l0 (k + 1) y0 y1 y2 y3 y4 y5 y6 y7 y8)) ∧ (∀ y0 y1 y2 y3 y4 y5 y6 y7 y8 y9 y10 y11, LeO (mat_Matrix_Square.l1 k y0 y1 y2 y3 y4 y5 y6 y7 y8 y9 y10 y11) (mat_Matrix_Square.l1 (k + 1) y0 y1 y2 y3 y4 y5 y6 y7 y8 y9 y10 y11))
 | 0 => ⟨fun _ _ _ _ _ _ _ _ _ r h => by simp [mat_Matrix_Square.l0] at h, fun _ _ _ _ _ _ _ _ _ _ _ _ r h => by simp [mat_Matrix_Square.l1] at h⟩
 | k + 1 => by
  obtain ⟨ih0, ih1⟩ := mat_Matrix_Square.mono_l k
  refine ⟨?_, ?_⟩ <;> intros <;> (first | unfold mat_Matrix_Square.l0 | unfold mat_Matrix_Square.l1) <;>
   repeat' with_reducible first | apply ih0 | apply ih1 | apply dyad_Num_Add.mono | apply dyad_Num_Mul.mono | apply dyad_Of.mono | exact LeO.refl _ | exact LeO.none _ | refine LeO.ite ?_ ?_ | refine LeO.bind ?_ (fun _ => ?_)
theorem mat_Matrix_Square.mono : ∀ a0 a1 a2 a3 k, LeO (mat_Matrix_Square.f k a0 a1 a2 a3) (mat_Matrix_Square.f (k + 1) a0 a1 a2 a3) := by
 intro a0 a1 a2 a3 k
 obtain ⟨ih0, ih1⟩ := mat_Matrix_Square.mono_l k
 unfold mat_Matrix_Square.f
 repeat' with_reducible first | apply ih0 | apply ih1 | apply dyad_Num_Add.mono | apply dyad_Num_Mul.mono | apply dyad_Of.mono | exact LeO.refl _ | exact LeO.none _ | refine LeO.ite ?_ ?_ | refine LeO.bind ?_ (fun _ => ?_)
set_option maxHeartbeats 8000000 in
set_option maxRecDepth 100000 in
theorem mat_Matrix_Square.calls (k : Nat) (a0_0 : Int) (a0_1 : Int) (a0_2 : Int) (A0_3 : Option Addr) (c0_3 : Nat) (l0_3 : List Int) (r1 : Bool) (r2 : List Int) (r3 : Int) (w : World) (hr0_3 : Kd.C (Kd.int .u64) w A0_3 l0_3.length l0_3) (hc0_3 : l0_3.length ≤ c0_3) (hT : TabW w) (h : mat_Matrix_Square.f k a0_0 a0_1 a0_2 l0_3 = some (r1, r2, r3)) :
  Calls Tryd.prog 12 #[.agg #[.int .i64 a0_0, .int .i64 a0_1, .int .i64 a0_2, .slice A0_3 l0_3.length c0_3]] w fun e w' => ∃ v1_ : Value, e = .returned (.agg #[.bool r1, v1_, .int .i64 r3]) ∧ Kd.V (Kd.int .u32) 56 w' w.heap.size (fun k_ => (w.heap.size ≤ k_)) v1_ r2 ∧ Below w.heap.size w w' := by
 have hu25 := Tryd.underlying25
 have hu29 := Tryd.underlying29
 have HR0_3 := Aside0.mk hr0_3
 have HC0_3 := Aside0.mk hc0_3
 clear hr0_3 hc0_3
 have HB := Aside0.mk (Below.refl w.heap.size w)
 have H : (mat_Matrix_Square.l0 k a0_0 0 a0_0 a0_1 a0_2 l0_3 false ([] : List Int) 0) = some (r1, r2, r3) := h
 clear h
 have H' := Aside0.mk H
 clear H
 go_enter Tryd.func12, Tryd.ntmps12
 go_wp2_with (first | ((with_reducible refine gate_dst (N := 1) rfl ?_); refine gbox (N := 1) (cs := #[.int .i64 a0_0, .int .i64 a0_1, .int .i64 a0_2, .slice A0_3 l0_3.length c0_3]) (t := 25) ?_; intro gb385 hg w2 hbox hb; refine ax4 (below_step bel hb) hbox ((ge hg : w.heap.size ≤ gb385)) ((ge hg : w.heap.size ≤ gb385)) ?_; clear HB; intro HB BK385 GW385 GE385; clear hb hbox hg) | ((with_reducible refine gate_dst (N := 2) rfl ?_); refine gbox (N := 2) (cs := #[.bool false, .slice none 0 0, .int .i64 0]) (t := 29) ?_; intro gb386 hg w3 hbox hb; refine ax7 (bb BK385 hb) (below_step bes hb) hbox ((ge hg : w.heap.size ≤ gb386)) ((ge hg : w.heap.size ≤ gb386)) (nl hg BK385) (ng hg BK385) ?_; clear BK385; clear HB; intro BK385 HB BK386 GW386 GE386 NB385_386 NB386_385; clear hb hbox hg) | ((with_reducible refine gate_dst (N := 3) rfl ?_); refine gbox (N := 3) (cs := #[.bool false, .slice none 0 0, .int .i64 0]) (t := 29) ?_; intro gb387 hg w4 hbox hb; refine ax10 (bb BK385 hb) (bb BK386 hb) (below_step bes hb) hbox ((ge hg : w.heap.size ≤ gb387)) ((ge hg : w.heap.size ≤ gb387)) (nl hg BK385) (ng hg BK385) (nl hg BK386) (ng hg BK386) ?_; clear BK385; clear BK386; clear HB; intro BK385 BK386 HB BK387 GW387 GE387 NB385_387 NB387_385 NB386_387 NB387_386; clear hb hbox hg; have hnb5 := NB385_386.out; have hnc5 := NB386_385.out; have hnb6 := NB385_387.out; have hnc6 := NB387_385.out; have hcz7_0 := bc BK385 0 rfl; have hcz7_1 := bc BK385 1 rfl; have hcz7_2 := bc BK385 2 rfl; have hcz7_3 := bc BK385 3 rfl; have hfz7_0 := blk_frozen BK385.out 0; have hfz7_1 := blk_frozen BK385.out 1; have hfz7_2 := blk_frozen BK385.out 2; have hfz7_3 := blk_frozen BK385.out 3))
 go_loopg [10] k (fun kq v10 w' => ∃ (x10_1 : Int) (x388000_1 : Bool) (x388001_1 : List Int) (x388002_1 : Int) (u388001 : Value), v10 = .int .i64 x10_1 ∧ Aside0 (mat_Matrix_Square.l0 kq a0_0 x10_1 a0_0 a0_1 a0_2 l0_3 x388000_1 x388001_1 x388002_1 = some (r1, r2, r3)) ∧ Aside0 (kq ≤ k) ∧ Aside0 (Kd.V (Kd.int .u32) 56 w' w.heap.size (fun k_ => (w.heap.size ≤ k_) ∧ k_ ≠ gb385 ∧ k_ ≠ gb386 ∧ k_ ≠ gb387) u388001 x388001_1) ∧ Aside0 (w'.heap[gb385]? = some (.cells #[.int .i64 a0_0, .int .i64 a0_1, .int .i64 a0_2, (.slice A0_3 l0_3.length c0_3)] 25 (0, 0))) ∧ Aside0 (w'.heap[gb386]? = some (.cells #[.bool false, (.slice none 0 0), .int .i64 0] 29 (0, 0))) ∧ Aside0 (w'.heap[gb387]? = some (.cells #[.bool x388000_1, u388001, .int .i64 x388002_1] 29 (0, 0))) ∧ Aside0 (Below w.heap.size w w'))
 case atStart => exact ⟨(0), (false), (([] : List Int)), (0), (.slice none 0 0), (by first | rfl | (simp; done) | (simp [*]; done)), H', ⟨Nat.le_refl _⟩, ⟨Kd.V_nil _ _ _ _ _⟩, ⟨kb BK385⟩, ⟨kb BK386⟩, ⟨kb BK387⟩, ⟨bes⟩⟩
 case round =>
  clear H'
  try clear c1
  try clear p2
  try clear c5
  try clear c6
  try clear hcz7_0
  try clear hcz7_1
  try clear hcz7_2
  try clear hcz7_3
  try clear hfz7_0
  try clear hfz7_1
  try clear hfz7_2
  try clear hfz7_3
  obtain ⟨x10_1, x388000_1, x388001_1, x388002_1, u388001, rfl, HA, HK1, HO_388001, BK385, BK386, BK387, HB⟩ := hrel
  cases gk with
  | zero => exact absurd HA.out (by simp [mat_Matrix_Square.l0])
  | succ k1 =>
   have H := HA.out
   clear HA
   simp only [mat_Matrix_Square.l0] at H
   by_cases c8 : x10_1 < a0_0
   ·
    rw [if_pos c8] at H
    have c8b0 : decide (x10_1 < a0_0) = true := decide_eq_true c8
    clear c8
    have H' := Aside0.mk H
    clear H
    have hnb9 := NB385_386.out
    have hnc9 := NB386_385.out
    have hnb10 := NB385_387.out
    have hnc10 := NB387_385.out
    have hcz11_0 := bc BK385 0 rfl
    have hcz11_1 := bc BK385 1 rfl
    have hcz11_2 := bc BK385 2 rfl
    have hcz11_3 := bc BK385 3 rfl
    have hfz11_0 := blk_frozen BK385.out 0
    have hfz11_1 := blk_frozen BK385.out 1
    have hfz11_2 := blk_frozen BK385.out 2
    have hfz11_3 := blk_frozen BK385.out 3
    go_wp2
    go_loopg [15] k1 (fun kq v15 w' => ∃ (x15_2 : Int) (x388000_2 : Bool) (x388001_2 : List Int) (x388002_2 : Int) (u388001 : Value), v15 = .int .i64 x15_2 ∧ Aside0 (mat_Matrix_Square.l1 kq x10_1 a0_0 x10_1 a0_1 x15_2 a0_0 a0_1 a0_2 l0_3 x388000_2 x388001_2 x388002_2 = some (r1, r2, r3)) ∧ Aside0 (kq ≤ k1) ∧ Aside0 (Kd.V (Kd.int .u32) 56 w' w.heap.size (fun k_ => (w.heap.size ≤ k_) ∧ k_ ≠ gb385 ∧ k_ ≠ gb386 ∧ k_ ≠ gb387) u388001 x388001_2) ∧ Aside0 (w'.heap[gb385]? = some (.cells #[.int .i64 a0_0, .int .i64 a0_1, .int .i64 a0_2, (.slice A0_3 l0_3.length c0_3)] 25 (0, 0))) ∧ Aside0 (w'.heap[gb386]? = some (.cells #[.bool false, (.slice none 0 0), .int .i64 0] 29 (0, 0))) ∧ Aside0 (w'.heap[gb387]? = some (.cells #[.bool x388000_2, u388001, .int .i64 x388002_2] 29 (0, 0))) ∧ Aside0 (Below w.heap.size w w'))
    case atStart => exact ⟨(0), (x388000_1), (x388001_1), (x388002_1), (u388001), (by first | rfl | (simp; done) | (simp [*]; done)), H', ⟨Nat.le_refl _⟩, ⟨kv HO_388001⟩, ⟨kb BK385⟩, ⟨kb BK386⟩, ⟨kb BK387⟩, ⟨bes⟩⟩
    case round =>
     clear H'
     try clear c1
     try clear p2
     try clear c5
     try clear c6
     try clear c8
     try clear c8b0
     try clear c9
     try clear c10
     try clear hcz11_0
     try clear hcz11_1
     try clear hcz11_2
     try clear hcz11_3
     try clear hcz7_0
     try clear hcz7_1
     try clear hcz7_2
     try clear hcz7_3
     try clear hfz11_0
     try clear hfz11_1
     try clear hfz11_2
     try clear hfz11_3
     try clear hfz7_0
     try clear hfz7_1
     try clear hfz7_2
     try clear hfz7_3
     try clear p2
     obtain ⟨x15_2, x388000_2, x388001_2, x388002_2, u388001, rfl, HA, HK2, HO_388001, BK385, BK386, BK387, HB⟩ := hrel
     cases gk with
     | zero => exact absurd HA.out (by simp [mat_Matrix_Square.l1])
     | succ k2 =>
      have H := HA.out
      clear HA
      simp only [mat_Matrix_Square.l1] at H
      by_cases c12 : x15_2 < a0_1
      rotate_left
      ·
       rw [if_neg c12] at H
       have c12b0 : decide (x15_2 < a0_1) = false := decide_eq_false c12
       clear c12
       have H' := Aside0.mk H
       clear H
       go_wp2
       go_roundg k2
       case measure => have := HK1.out; have := HK2.out; omega
       case rel => exact ⟨(wrap64 (x10_1 + 1)), (x388000_2), (x388001_2), (x388002_2), (u388001), (by first | rfl | (simp; done) | (simp [*]; done)), H', ⟨by have := HK1.out; have := HK2.out; omega⟩, ⟨kv HO_388001⟩, ⟨kb BK385⟩, ⟨kb BK386⟩, ⟨kb BK387⟩, ⟨bes⟩⟩
      rw [if_pos c12] at H
      have c12b0 : decide (x15_2 < a0_1) = true := decide_eq_true c12
      clear c12
      obtain ⟨t388, A130, H⟩ := Option.bind_eq_some_iff.mp H
      (try dsimp -simprocs only at H)
      have A13 := Aside0.mk A130
      clear A130
      obtain ⟨⟨t389, t390, t393, t394⟩, A140, H⟩ := Option.bind_eq_some_iff.mp H
      (try dsimp -simprocs only at H)
      have A14 := Aside0.mk A140
      clear A140
      obtain ⟨⟨t396, t397, t400⟩, A150, H⟩ := Option.bind_eq_some_iff.mp H
      (try dsimp -simprocs only at H)
      have A15 := Aside0.mk A150
      clear A150
      obtain ⟨⟨t401, t402, t405⟩, A160, H⟩ := Option.bind_eq_some_iff.mp H
      (try dsimp -simprocs only at H)
      have A16 := Aside0.mk A160
      clear A160
      have H' := Aside0.mk H
      clear H
      have hnb17 := NB385_386.out
      have hnc17 := NB386_385.out
      have hnb18 := NB385_387.out
      have hnc18 := NB387_385.out
      have hcz19_0 := bc BK385 0 rfl
      have hcz19_1 := bc BK385 1 rfl
      have hcz19_2 := bc BK385 2 rfl
      have hcz19_3 := bc BK385 3 rfl
      have hfz19_0 := blk_frozen BK385.out 0
      have hfz19_1 := blk_frozen BK385.out 1
      have hfz19_2 := blk_frozen BK385.out 2
      have hfz19_3 := blk_frozen BK385.out 3
      try go_wp2_with (first | ((with_reducible refine gate_callee (f := 8) rfl ?_); refine goesL_ (some 22) rfl rfl Tryd.func8 (by kernel_rfl) rfl #[.agg #[.int .i64 a0_0, .int .i64 a0_1, .int .i64 a0_2, .slice A0_3 l0_3.length c0_3], .int .i64 x10_1, .int .i64 x15_2] rfl ga ?_; (with_reducible refine (mat_Matrix_At.calls a0_0 a0_1 a0_2 _ _ l0_3 x10_1 x15_2 t388 _ ?side1 ?side2 A13.out).mono ?_); (case side1 => repeat (first | exact (Kd.C_below HR0_3.out HB.out) | (with_reducible refine Kd.C_alloc ?_ _) | (with_reducible refine Kd.C_drewN ?_ _) | (with_reducible refine Kd.C_drew ?_))); (case side2 => exact HC0_3.out); rintro e w20 ⟨rfl, hb⟩; refine ⟨_, rfl, ?_⟩; refine ax5 (Kd.V_below (kv HO_388001) hb) (bb BK385 hb) (bb BK386 hb) (bb BK387 hb) (below_step bes hb) ?_; clear HO_388001; clear BK385; clear BK386; clear BK387; clear HB; intro HO_388001 BK385 BK386 BK387 HB; (try clear hb)) | ((with_reducible refine gate_callee (f := 7) rfl ?_); refine goesL_ (some 23) rfl rfl Tryd.func7 (by kernel_rfl) rfl #[.int .u64 t388] rfl ga ?_; (with_reducible refine (dyad_Of.calls k2 t388 t389 t390 t393 t394 _ ?side1 A14.out).mono ?_); (case side1 => first | exact hT | exact TabW.drewN hT _ | exact TabW.drew hT | exact TabW.below hT bes); rintro e w21 ⟨v391, rfl, ho0, hb⟩; refine ⟨_, rfl, ?_⟩; refine ax6 (Kd.V_below (kv HO_388001) hb) (Kd.V_lower (Kd.V_mono (ok' := fun k_ => (w.heap.size ≤ k_) ∧ k_ ≠ gb385 ∧ k_ ≠ gb386 ∧ k_ ≠ gb387) ho0 (fun k_ hk_ => ⟨(Nat.le_trans (below_size bes) hk_), (fb BK385 k_ hk_), (fb BK386 k_ hk_), (fb BK387 k_ hk_)⟩)) (below_size bes)) (bb BK385 hb) (bb BK386 hb) (bb BK387 hb) (below_step bes hb) ?_; clear HO_388001; clear BK385; clear BK386; clear BK387; clear HB; intro HO_388001 HO392 BK385 BK386 BK387 HB; (try clear hb); (try clear ho0)) | ((with_reducible refine gate_dst (N := 6) rfl ?_); refine gbox (N := 6) (cs := #[.bool false, .slice none 0 0, .int .i64 0]) (t := 29) ?_; intro gb395 hg w22 hbox hb; refine ax15 (Kd.V_below (Kd.V_elderB (kv HO_388001) gb395 (Nat.le_of_eq hg.symm)) hb) (Kd.V_below (Kd.V_elderB (kv HO392) gb395 (Nat.le_of_eq hg.symm)) hb) (bb BK385 hb) (bb BK386 hb) (bb BK387 hb) (below_step bes hb) hbox ((ge hg : w.heap.size ≤ gb395)) ((ge hg : w.heap.size ≤ gb395)) (nl hg BK385) (ng hg BK385) (nl hg BK386) (ng hg BK386) (nl hg BK387) (ng hg BK387) ?_; clear HO_388001; clear HO392; clear BK385; clear BK386; clear BK387; clear HB; intro HO_388001 HO392 BK385 BK386 BK387 HB BK395 GW395 GE395 NB385_395 NB395_385 NB386_395 NB395_386 NB387_395 NB395_387; clear hb hbox hg; have hnb23 := NB395_385.out; have hnc23 := NB385_395.out; have hnb24 := NB395_386.out; have hnc24 := NB386_395.out; have hnb25 := NB395_387.out; have hnc25 := NB387_395.out; have hcz26_0 := bc BK395 0 rfl; have hcz26_1 := bc BK395 1 rfl; have hcz26_2 := bc BK395 2 rfl; have hfz26_0 := blk_frozen BK395.out 0; have hfz26_1 := blk_frozen BK395.out 1; have hfz26_2 := blk_frozen BK395.out 2; obtain ⟨Ao27, co27, eo27⟩ := Kd.V_slice HO392.out; subst eo27))
      have n0_ : Aside0 (Kd.V (Kd.int .u32) 56 (((w22.setCell ⟨gb395, 0, none⟩ (.bool t389)).setCell ⟨gb395, 1, none⟩ (.slice Ao27 t390.length co27)).setCell ⟨gb395, 2, none⟩ (.int .i64 t393)) w.heap.size (fun k_ => (w.heap.size ≤ k_) ∧ k_ ≠ gb385 ∧ k_ ≠ gb386 ∧ k_ ≠ gb387 ∧ k_ ≠ gb395) u388001 x388001_2) := ⟨by (with_reducible repeat (first | apply Kd.V_alloc | apply Kd.V_drewN | apply Kd.V_drew)); exact Kd.V_mono (Kd.V_far (p := ⟨gb395, 2, none⟩) (Kd.V_far (p := ⟨gb395, 1, none⟩) (Kd.V_far (p := ⟨gb395, 0, none⟩) (Kd.V_mono HO_388001.out (fun k_ hk => (⟨hk, hk.2⟩ : _ ∧ k_ ≠ gb395))) (fun _ hk => hk.2) (.bool t389)) (fun _ hk => hk.2) (.slice Ao27 t390.length co27)) (fun _ hk => hk.2) (.int .i64 t393)) (fun _ hk => ⟨hk.1.1.1, ⟨hk.1.1.2.1, ⟨hk.1.1.2.2.1, ⟨hk.1.1.2.2.2, hk.1.2⟩⟩⟩⟩)⟩
      have n1_ : Aside0 (Kd.V (Kd.int .u32) 56 (((w22.setCell ⟨gb395, 0, none⟩ (.bool t389)).setCell ⟨gb395, 1, none⟩ (.slice Ao27 t390.length co27)).setCell ⟨gb395, 2, none⟩ (.int .i64 t393)) w.heap.size (fun k_ => (w.heap.size ≤ k_) ∧ k_ ≠ gb385 ∧ k_ ≠ gb386 ∧ k_ ≠ gb387 ∧ k_ ≠ gb395) (.slice Ao27 t390.length co27) t390) := ⟨by (with_reducible repeat (first | apply Kd.V_alloc | apply Kd.V_drewN | apply Kd.V_drew)); exact Kd.V_mono (Kd.V_far (p := ⟨gb395, 2, none⟩) (Kd.V_far (p := ⟨gb395, 1, none⟩) (Kd.V_far (p := ⟨gb395, 0, none⟩) (Kd.V_mono HO392.out (fun k_ hk => (⟨hk, hk.2⟩ : _ ∧ k_ ≠ gb395))) (fun _ hk => hk.2) (.bool t389)) (fun _ hk => hk.2) (.slice Ao27 t390.length co27)) (fun _ hk => hk.2) (.int .i64 t393)) (fun _ hk => ⟨hk.1.1.1, ⟨hk.1.1.2.1, ⟨hk.1.1.2.2.1, ⟨hk.1.1.2.2.2, hk.1.2⟩⟩⟩⟩)⟩
      have n2_ : Aside0 ((((w22.setCell ⟨gb395, 0, none⟩ (.bool t389)).setCell ⟨gb395, 1, none⟩ (.slice Ao27 t390.length co27)).setCell ⟨gb395, 2, none⟩ (.int .i64 t393)).heap[gb385]? = some (.cells #[.int .i64 a0_0, .int .i64 a0_1, .int .i64 a0_2, .slice A0_3 l0_3.length c0_3] 25 (0, 0))) := ⟨by (with_reducible repeat (first | refine blk_drewN ?_ _ | refine blk_drew ?_ | refine blk_alloc ?_ _)); refine blk_far ?_ NB385_395.out _; (with_reducible repeat (first | refine blk_drewN ?_ _ | refine blk_drew ?_ | refine blk_alloc ?_ _)); refine blk_far ?_ NB385_395.out _; (with_reducible repeat (first | refine blk_drewN ?_ _ | refine blk_drew ?_ | refine blk_alloc ?_ _)); refine blk_far ?_ NB385_395.out _; (with_reducible repeat (first | refine blk_drewN ?_ _ | refine blk_drew ?_ | refine blk_alloc ?_ _)); exact BK385.out⟩
      have n3_ : Aside0 ((((w22.setCell ⟨gb395, 0, none⟩ (.bool t389)).setCell ⟨gb395, 1, none⟩ (.slice Ao27 t390.length co27)).setCell ⟨gb395, 2, none⟩ (.int .i64 t393)).heap[gb386]? = some (.cells #[.bool false, .slice none 0 0, .int .i64 0] 29 (0, 0))) := ⟨by (with_reducible repeat (first | refine blk_drewN ?_ _ | refine blk_drew ?_ | refine blk_alloc ?_ _)); refine blk_far ?_ NB386_395.out _; (with_reducible repeat (first | refine blk_drewN ?_ _ | refine blk_drew ?_ | refine blk_alloc ?_ _)); refine blk_far ?_ NB386_395.out _; (with_reducible repeat (first | refine blk_drewN ?_ _ | refine blk_drew ?_ | refine blk_alloc ?_ _)); refine blk_far ?_ NB386_395.out _; (with_reducible repeat (first | refine blk_drewN ?_ _ | refine blk_drew ?_ | refine blk_alloc ?_ _)); exact BK386.out⟩
      have n4_ : Aside0 ((((w22.setCell ⟨gb395, 0, none⟩ (.bool t389)).setCell ⟨gb395, 1, none⟩ (.slice Ao27 t390.length co27)).setCell ⟨gb395, 2, none⟩ (.int .i64 t393)).heap[gb387]? = some (.cells #[.bool x388000_2, u388001, .int .i64 x388002_2] 29 (0, 0))) := ⟨by (with_reducible repeat (first | refine blk_drewN ?_ _ | refine blk_drew ?_ | refine blk_alloc ?_ _)); refine blk_far ?_ NB387_395.out _; (with_reducible repeat (first | refine blk_drewN ?_ _ | refine blk_drew ?_ | refine blk_alloc ?_ _)); refine blk_far ?_ NB387_395.out _; (with_reducible repeat (first | refine blk_drewN ?_ _ | refine blk_drew ?_ | refine blk_alloc ?_ _)); refine blk_far ?_ NB387_395.out _; (with_reducible repeat (first | refine blk_drewN ?_ _ | refine blk_drew ?_ | refine blk_alloc ?_ _)); exact BK387.out⟩
      have n5_ : Aside0 ((((w22.setCell ⟨gb395, 0, none⟩ (.bool t389)).setCell ⟨gb395, 1, none⟩ (.slice Ao27 t390.length co27)).setCell ⟨gb395, 2, none⟩ (.int .i64 t393)).heap[gb395]? = some (.cells #[.bool t389, .slice Ao27 t390.length co27, .int .i64 t393] 29 (0, 0))) := ⟨by (with_reducible repeat (first | refine blk_drewN ?_ _ | refine blk_drew ?_ | refine blk_alloc ?_ _)); refine blk_put (cs := #[.bool t389, .slice Ao27 t390.length co27, .int .i64 0]) ?_ 2 _ rfl; (with_reducible repeat (first | refine blk_drewN ?_ _ | refine blk_drew ?_ | refine blk_alloc ?_ _)); refine blk_put (cs := #[.bool t389, .slice none 0 0, .int .i64 0]) ?_ 1 _ rfl; (with_reducible repeat (first | refine blk_drewN ?_ _ | refine blk_drew ?_ | refine blk_alloc ?_ _)); refine blk_put (cs := #[.bool false, .slice none 0 0, .int .i64 0]) ?_ 0 _ rfl; (with_reducible repeat (first | refine blk_drewN ?_ _ | refine blk_drew ?_ | refine blk_alloc ?_ _)); exact BK395.out⟩
      have n6_ : Aside0 (Below w.heap.size w (((w22.setCell ⟨gb395, 0, none⟩ (.bool t389)).setCell ⟨gb395, 1, none⟩ (.slice Ao27 t390.length co27)).setCell ⟨gb395, 2, none⟩ (.int .i64 t393))) := ⟨bes⟩
      (try clear HO_388001)
      (try clear HO392)
      (try clear BK385)
      (try clear BK386)
      (try clear BK387)
      (try clear BK395)
      (try clear HB)
      generalize (((w22.setCell ⟨gb395, 0, none⟩ (.bool t389)).setCell ⟨gb395, 1, none⟩ (.slice Ao27 t390.length co27)).setCell ⟨gb395, 2, none⟩ (.int .i64 t393)) = w28 at n0_ n1_ n2_ n3_ n4_ n5_ n6_ ⊢
      have HO_388001 := n0_
      have HO392 := n1_
      have BK385 := n2_
      have BK386 := n3_
      have BK387 := n4_
      have BK395 := n5_
      have HB := n6_
      clear n0_ n1_ n2_ n3_ n4_ n5_ n6_
      refine ax7 (Kd.V_drew HO_388001.out) (Kd.V_drew HO392.out) (blk_drew BK385.out) (blk_drew BK386.out) (blk_drew BK387.out) (blk_drew BK395.out) (below_drew1 HB.out) ?_
      clear HO_388001 HO392 BK385 BK386 BK387 BK395 HB
      intro HO_388001 HO392 BK385 BK386 BK387 BK395 HB
      refine start_ (n := 6) (S := fun w' => w'.cell? ⟨gb387, 0, none⟩ = some (.bool x388000_2) ∧ w'.cell? ⟨gb387, 1, none⟩ = some (u388001) ∧ w'.cell? ⟨gb387, 2, none⟩ = some (.int .i64 x388002_2) ∧ w'.cell? ⟨gb395, 0, none⟩ = some (.bool t389) ∧ w'.cell? ⟨gb395, 1, none⟩ = some (.slice Ao27 t390.length co27) ∧ w'.cell? ⟨gb395, 2, none⟩ = some (.int .i64 t393)) (ds := [5]) #[false, false, false, false, false, false] (by kernel_rfl) rfl rfl ⟨(blk_cell BK387.out 0).trans rfl, (blk_cell BK387.out 1).trans rfl, (blk_cell BK387.out 2).trans rfl, (blk_cell BK395.out 0).trans rfl, (blk_cell BK395.out 1).trans rfl, (blk_cell BK395.out 2).trans rfl⟩ (fun hHeld => ?_)
      generalize w28.drew = w29 at HO_388001 HO392 BK385 BK386 BK387 BK395 HB hHeld ⊢
      refine take_ (i := 0) (N := some 26) (v := ?_) (a' := ?_) #[true, false, false, false, false, false] rfl rfl (by kernel_rfl) (fun _ _ _ h => h) (Or.inl ⟨by rfl, ?_⟩) hHeld ?_ ?_
      rotate_left
      ·
       rintro w' ⟨s0, s1, s2, s3, s4, s5⟩
       go_simp
       with_reducible rfl
      rotate_left
      ·
       simp only [Act.put, sa0, sa1, sa2, i64_w, i32_w]
       rfl
      refine take_ (i := 1) (N := some 27) (v := ?_) (a' := ?_) #[true, true, false, false, false, false] rfl rfl (by kernel_rfl) (fun _ _ _ h => h) (Or.inl ⟨by rfl, ?_⟩) hHeld ?_ ?_
      rotate_left
      ·
       rintro w' ⟨s0, s1, s2, s3, s4, s5⟩
       go_simp
       with_reducible rfl
      rotate_left
      ·
       simp only [Act.put, sa0, sa1, sa2, i64_w, i32_w]
       rfl
      refine take_ (i := 2) (N := some 28) (v := ?_) (a' := ?_) #[true, true, true, false, false, false] rfl rfl (by kernel_rfl) (fun _ _ _ h => h) (Or.inl ⟨by rfl, ?_⟩) hHeld ?_ ?_
      rotate_left
      ·
       rintro w' ⟨s0, s1, s2, s3, s4, s5⟩
       go_simp
       with_reducible rfl
      rotate_left
      ·
       simp only [Act.put, sa0, sa1, sa2, i64_w, i32_w]
       rfl
      refine one_ (i := 3) (N := some 29) #[true, true, true, true, false, false] rfl rfl (by kernel_rfl) (by decide) (fun K hK => ?_)
      refine goes_ Tryd.func10 (by kernel_rfl) rfl #[.agg #[.bool t389, .slice Ao27 t390.length co27, .int .i64 t393], .agg #[.bool t389, .slice Ao27 t390.length co27, .int .i64 t393]] (by rfl) rfl rfl ga ?_
      with_reducible refine (dyad_Num_Mul.calls k2 t389 _ _ t390 t393 t389 _ _ t390 t393 t396 t397 t400 _ ?side1 ?side2 ?side3 ?side4 ?side5 A15.out).mono ?_
      (case side1 => exact kvs HO392)
      (case side2 => exact (Kd.V_reads' HO392.out).2.1)
      (case side3 => exact kvs HO392)
      (case side4 => exact (Kd.V_reads' HO392.out).2.1)
      (case side5 => first | exact hT | exact TabW.drewN hT _ | exact TabW.drew hT | exact TabW.below hT bes)
      rintro e w30 ⟨v398, rfl, ho0, hb⟩
      refine ⟨_, rfl, ?_⟩
      refine ax8 (Kd.V_below (kv HO_388001) hb) (Kd.V_below (kv HO392) hb) (Kd.V_lower (Kd.V_mono (ok' := fun k_ => (w.heap.size ≤ k_) ∧ k_ ≠ gb385 ∧ k_ ≠ gb386 ∧ k_ ≠ gb387 ∧ k_ ≠ gb395) ho0 (fun k_ hk_ => ⟨(Nat.le_trans (below_size bes) hk_), (fb BK385 k_ hk_), (fb BK386 k_ hk_), (fb BK387 k_ hk_), (fb BK395 k_ hk_)⟩)) (below_size bes)) (bb BK385 hb) (bb BK386 hb) (bb BK387 hb) (bb BK395 hb) (below_step bes hb) ?_
      clear HO_388001 HO392 BK385 BK386 BK387 BK395 HB
      intro HO_388001 HO392 HO399 BK385 BK386 BK387 BK395 HB
      (try clear hb)
      (try clear hb2)
      (try clear hk)
      (try clear hi)
      (try clear ho0)
      obtain ⟨Ao31, co31, eo31⟩ := Kd.V_slice HO_388001.out
      (first | subst eo31 | (injection eo31 with f1_ f2_ f3_; have f4_ := f1_.symm; have f5_ := f3_.symm; clear f1_ f2_ f3_; subst f4_; subst f5_))
      obtain ⟨Ao32, co32, eo32⟩ := Kd.V_slice HO399.out
      (first | subst eo32 | (injection eo32 with f1_ f2_ f3_; have f4_ := f1_.symm; have f5_ := f3_.symm; clear f1_ f2_ f3_; subst f4_; subst f5_))
      refine hK.out _ _ ⟨(blk_cell BK387.out 0).trans rfl, (blk_cell BK387.out 1).trans rfl, (blk_cell BK387.out 2).trans rfl, (blk_cell BK395.out 0).trans rfl, (blk_cell BK395.out 1).trans rfl, (blk_cell BK395.out 2).trans rfl⟩ (fun hHeld => ?_)
      clear hK K
      refine norm_ (a' := ?_) ?_ ?_
      rotate_left
      ·
       show Act.put _ (some 29) _ = _
       simp only [Act.put, sa0, sa1, sa2, i64_w, i32_w]
       rfl
      refine one_ (i := 4) (N := some 30) #[true, true, true, true, true, false] rfl rfl (by kernel_rfl) (by decide) (fun K hK => ?_)
      refine goes_ Tryd.func9 (by kernel_rfl) rfl #[.agg #[.bool x388000_2, .slice Ao31 x388001_2.length co31, .int .i64 x388002_2], .agg #[.bool t396, .slice Ao32 t397.length co32, .int .i64 t400]] (by rfl) rfl rfl ga ?_
      with_reducible refine (dyad_Num_Add.calls k2 x388000_2 (fun k_ => ((w.heap.size ≤ k_) ∧ (k_ ≠ gb385 ∧ (k_ ≠ gb386 ∧ (k_ ≠ gb387 ∧ k_ ≠ gb395))))) _ _ x388001_2 x388002_2 t396 (fun k_ => ((w.heap.size ≤ k_) ∧ (k_ ≠ gb385 ∧ (k_ ≠ gb386 ∧ (k_ ≠ gb387 ∧ k_ ≠ gb395))))) _ _ t397 t400 t401 t402 t405 _ ?side1 ?side2 ?side3 A16.out).mono ?_
      (case side1 => exact HO_388001.out)
      (case side2 => exact HO399.out)
      (case side3 => first | exact hT | exact TabW.drewN hT _ | exact TabW.drew hT | exact TabW.below hT bes)
      rintro e w33 ⟨v403, rfl, ho0, hb⟩
      refine ⟨_, rfl, ?_⟩
      refine ax9 (Kd.V_below (kv HO_388001) hb) (Kd.V_below (kv HO392) hb) (Kd.V_below (kv HO399) hb) (Kd.V_lower (Kd.V_mono (ok' := fun k_ => (w.heap.size ≤ k_) ∧ k_ ≠ gb385 ∧ k_ ≠ gb386 ∧ k_ ≠ gb387 ∧ k_ ≠ gb395) ho0 (fun k_ hk_ => ⟨Or.elim hk_ (fun hs_ => Or.elim hs_ (fun hs_ => hs_.1) (fun hs_ => hs_.1)) (fun hn_ => (Nat.le_trans (below_size bes) hn_)), Or.elim hk_ (fun hs_ => Or.elim hs_ (fun hs_ => hs_.2.1) (fun hs_ => hs_.2.1)) (fun hn_ => (fb BK385 k_ hn_)), Or.elim hk_ (fun hs_ => Or.elim hs_ (fun hs_ => hs_.2.2.1) (fun hs_ => hs_.2.2.1)) (fun hn_ => (fb BK386 k_ hn_)), Or.elim hk_ (fun hs_ => Or.elim hs_ (fun hs_ => hs_.2.2.2.1) (fun hs_ => hs_.2.2.2.1)) (fun hn_ => (fb BK387 k_ hn_)), Or.elim hk_ (fun hs_ => Or.elim hs_ (fun hs_ => hs_.2.2.2.2) (fun hs_ => hs_.2.2.2.2)) (fun hn_ => (fb BK395 k_ hn_))⟩)) (below_size bes)) (bb BK385 hb) (bb BK386 hb) (bb BK387 hb) (bb BK395 hb) (below_step bes hb) ?_
      clear HO_388001 HO392 HO399 BK385 BK386 BK387 BK395 HB
      intro HO_388001 HO392 HO399 HO404 BK385 BK386 BK387 BK395 HB
      (try clear hb)
      (try clear hb2)
      (try clear hk)
      (try clear hi)
      (try clear ho0)
      obtain ⟨Ao35, co35, eo35⟩ := Kd.V_slice HO404.out
      (first | subst eo35 | (injection eo35 with f1_ f2_ f3_; have f4_ := f1_.symm; have f5_ := f3_.symm; clear f1_ f2_ f3_; subst f4_; subst f5_))
      refine hK.out _ _ ⟨(blk_cell BK387.out 0).trans rfl, (blk_cell BK387.out 1).trans rfl, (blk_cell BK387.out 2).trans rfl, (blk_cell BK395.out 0).trans rfl, (blk_cell BK395.out 1).trans rfl, (blk_cell BK395.out 2).trans rfl⟩ (fun hHeld => ?_)
      clear hK K
      refine norm_ (a' := ?_) ?_ ?_
      rotate_left
      ·
       show Act.put _ (some 30) _ = _
       simp only [Act.put, sa0, sa1, sa2, i64_w, i32_w]
       rfl
      refine last_ (i := 5) (N := none) #[true, true, true, true, true, true] rfl rfl (by kernel_rfl) (by decide) (fun K hK => ?_)
      have hs34 : w33.cell? ⟨gb387, 0, none⟩ = some (.bool x388000_2) := (blk_cell BK387.out 0).trans rfl
      have hfs34 := blk_frozen BK387.out 0
      have hns34_0 := NB385_387.out
      have hns34_1 := NB386_387.out
      have hns34_3 := NB395_387.out
      have hms34_0 := NB387_385.out
      have hms34_1 := NB387_386.out
      have hms34_3 := NB387_395.out
      have hs36 : w33.cell? ⟨gb387, 1, none⟩ = some (.slice Ao31 x388001_2.length co31) := (blk_cell BK387.out 1).trans rfl
      have hfs36 := blk_frozen BK387.out 1
      have hns36_0 := NB385_387.out
      have hns36_1 := NB386_387.out
      have hns36_3 := NB395_387.out
      have hms36_0 := NB387_385.out
      have hms36_1 := NB387_386.out
      have hms36_3 := NB387_395.out
      have hs37 : w33.cell? ⟨gb387, 2, none⟩ = some (.int .i64 x388002_2) := (blk_cell BK387.out 2).trans rfl
      have hfs37 := blk_frozen BK387.out 2
      have hns37_0 := NB385_387.out
      have hns37_1 := NB386_387.out
      have hns37_3 := NB395_387.out
      have hms37_0 := NB387_385.out
      have hms37_1 := NB387_386.out
      have hms37_3 := NB387_395.out
      refine skip_ (w1 := ?_) (by rfl) rfl ?_ ?_
      rotate_left
      ·
       go_simp
       rfl
      refine hK.out _ _ ?_
      clear hK K
      refine done_ (by kernel_rfl) ?_
      try go_wp2
      go_roundg k2
      case measure => have := HK1.out; have := HK2.out; omega
      case rel => exact ⟨(wrap64 (x15_2 + 1)), (t401), (t402), (t405), (.slice Ao35 t402.length co35), (by first | rfl | (simp; done) | (simp [*]; done)), H', ⟨by have := HK1.out; have := HK2.out; omega⟩, ⟨by (with_reducible repeat (first | apply Kd.V_alloc | apply Kd.V_drewN | apply Kd.V_drew)); exact Kd.V_mono (Kd.V_far (p := ⟨gb387, 2, none⟩) (Kd.V_far (p := ⟨gb387, 1, none⟩) (Kd.V_far (p := ⟨gb387, 0, none⟩) (Kd.V_mono HO404.out (fun k_ hk => (⟨hk, hk.2.2.2.1⟩ : _ ∧ k_ ≠ gb387))) (fun _ hk => hk.2) (.bool t401)) (fun _ hk => hk.2) (.slice Ao35 t402.length co35)) (fun _ hk => hk.2) (.int .i64 t405)) (fun _ hk => ⟨hk.1.1, ⟨hk.1.2.1, ⟨hk.1.2.2.1, hk.1.2.2.2.1⟩⟩⟩)⟩, ⟨by (with_reducible repeat (first | refine blk_drewN ?_ _ | refine blk_drew ?_ | refine blk_alloc ?_ _)); refine blk_far ?_ NB385_387.out _; (with_reducible repeat (first | refine blk_drewN ?_ _ | refine blk_drew ?_ | refine blk_alloc ?_ _)); refine blk_far ?_ NB385_387.out _; (with_reducible repeat (first | refine blk_drewN ?_ _ | refine blk_drew ?_ | refine blk_alloc ?_ _)); refine blk_far ?_ NB385_387.out _; (with_reducible repeat (first | refine blk_drewN ?_ _ | refine blk_drew ?_ | refine blk_alloc ?_ _)); exact BK385.out⟩, ⟨by (with_reducible repeat (first | refine blk_drewN ?_ _ | refine blk_drew ?_ | refine blk_alloc ?_ _)); refine blk_far ?_ NB386_387.out _; (with_reducible repeat (first | refine blk_drewN ?_ _ | refine blk_drew ?_ | refine blk_alloc ?_ _)); refine blk_far ?_ NB386_387.out _; (with_reducible repeat (first | refine blk_drewN ?_ _ | refine blk_drew ?_ | refine blk_alloc ?_ _)); refine blk_far ?_ NB386_387.out _; (with_reducible repeat (first | refine blk_drewN ?_ _ | refine blk_drew ?_ | refine blk_alloc ?_ _)); exact BK386.out⟩, ⟨by (with_reducible repeat (first | refine blk_drewN ?_ _ | refine blk_drew ?_ | refine blk_alloc ?_ _)); refine blk_put (cs := #[.bool t401, .slice Ao35 t402.length co35, .int .i64 x388002_2]) ?_ 2 _ rfl; (with_reducible repeat (first | refine blk_drewN ?_ _ | refine blk_drew ?_ | refine blk_alloc ?_ _)); refine blk_put (cs := #[.bool t401, .slice Ao31 x388001_2.length co31, .int .i64 x388002_2]) ?_ 1 _ rfl; (with_reducible repeat (first | refine blk_drewN ?_ _ | refine blk_drew ?_ | refine blk_alloc ?_ _)); refine blk_put (cs := #[.bool x388000_2, .slice Ao31 x388001_2.length co31, .int .i64 x388002_2]) ?_ 0 _ rfl; (with_reducible repeat (first | refine blk_drewN ?_ _ | refine blk_drew ?_ | refine blk_alloc ?_ _)); exact BK387.out⟩, ⟨bes⟩⟩
   ·
    rw [if_neg c8] at H
    have c8b0 : decide (x10_1 < a0_0) = false := decide_eq_false c8
    clear c8
    simp only [Option.some.injEq, Prod.mk.injEq] at H
    obtain ⟨rfl, rfl, rfl⟩ := H
    have hnb38 := NB387_385.out
    have hnc38 := NB385_387.out
    have hnb39 := NB387_386.out
    have hnc39 := NB386_387.out
    have hcz40_0 := bc BK387 0 rfl
    have hcz40_1 := bc BK387 1 rfl
    have hcz40_2 := bc BK387 2 rfl
    have hfz40_0 := blk_frozen BK387.out 0
    have hfz40_1 := blk_frozen BK387.out 1
    have hfz40_2 := blk_frozen BK387.out 2
    have hnb41 := NB386_385.out
    have hnc41 := NB385_386.out
    have hcz42_0 := bc BK386 0 rfl
    have hcz42_1 := bc BK386 1 rfl
    have hcz42_2 := bc BK386 2 rfl
    have hfz42_0 := blk_frozen BK386.out 0
    have hfz42_1 := blk_frozen BK386.out 1
    have hfz42_2 := blk_frozen BK386.out 2
    obtain ⟨Ao43, co43, eo43⟩ := Kd.V_slice HO_388001.out
    subst eo43
    go_wp2
    refine bodyPost_ret (results_cell_row rfl _ _ gb386 29 #[.bool x388000_1, .slice Ao43 x388001_1.length co43, .int .i64 x388002_1] (0, 0) _ rfl (by (with_reducible repeat (first | refine blk_drewN ?_ _ | refine blk_drew ?_ | refine blk_alloc ?_ _)); refine blk_put (cs := #[.bool x388000_1, .slice Ao43 x388001_1.length co43, .int .i64 0]) ?_ 2 _ rfl; (with_reducible repeat (first | refine blk_drewN ?_ _ | refine blk_drew ?_ | refine blk_alloc ?_ _)); refine blk_put (cs := #[.bool x388000_1, .slice none 0 0, .int .i64 0]) ?_ 1 _ rfl; (with_reducible repeat (first | refine blk_drewN ?_ _ | refine blk_drew ?_ | refine blk_alloc ?_ _)); refine blk_put (cs := #[.bool false, .slice none 0 0, .int .i64 0]) ?_ 0 _ rfl; (with_reducible repeat (first | refine blk_drewN ?_ _ | refine blk_drew ?_ | refine blk_alloc ?_ _)); exact BK386.out) Tryd.underlying29 rfl (by kernel_rfl)) rfl ?_
    exact ⟨_, er, by (with_reducible repeat (first | apply Kd.V_alloc | apply Kd.V_drewN | apply Kd.V_drew)); exact Kd.V_mono (Kd.V_far (p := ⟨gb386, 2, none⟩) (Kd.V_far (p := ⟨gb386, 1, none⟩) (Kd.V_far (p := ⟨gb386, 0, none⟩) (Kd.V_mono HO_388001.out (fun k_ hk => (⟨hk, hk.2.2.1⟩ : _ ∧ k_ ≠ gb386))) (fun _ hk => hk.2) (.bool x388000_1)) (fun _ hk => hk.2) (.slice Ao43 x388001_1.length co43)) (fun _ hk => hk.2) (.int .i64 x388002_1)) (fun _ hk => hk.1.1), bes⟩

/-! ### slices_Equal_uint32_uint32: function 32 -/
def slices_Equal_uint32_uint32.l0 : Nat → List Int → List Int → Int → Int → Option (Bool)
 | 0, _, _, _, _ => none
 | k + 1, x0, x1, x12, x13 => if x13 < x12 then (if 0 ≤ x13 then (if x13 < (x0.length : Int) then (if x13 < (x1.length : Int) then (if (rd x0 x13) = (rd x1 x13) then (slices_Equal_uint32_uint32.l0 k x0 x1 x12 (wrap64 (x13 + 1))) else (some false)) else (none)) else (none)) else (none)) else (some true)
def slices_Equal_uint32_uint32.f (k : Nat) (l0 : List Int) (l1 : List Int) : Option (Bool) := if (l0.length : Int) = (l1.length : Int) then (slices_Equal_uint32_uint32.l0 k l0 l1 (l0.length : Int) 0) else (some false)
theorem slices_Equal_uint32_uint32.mono_l : ∀ k, (∀ y0 y1 y2 y3, LeO (slices_Equal_uint32_uint32.l0 k y0 y1 y2 y3) (slices_Equal_uint32_uint32.l0 (k + 1) y0 y1 y2 y3))
 | 0 => fun _ _ _ _ r h => by simp [slices_Equal_uint32_uint32.l0] at h
 | k + 1 => by
  have ih0 := slices_Equal_uint32_uint32.mono_l k
  ·
   intro y0 y1 y2 y3
   unfold slices_Equal_uint32_uint32.l0
   repeat' with_reducible first | apply ih0 | exact LeO.refl _ | exact LeO.none _ | refine LeO.ite ?_ ?_ | refine LeO.bind ?_ (fun _ => ?_)
theorem slices_Equal_uint32_uint32.mono : ∀ a0 a1 k, LeO (slices_Equal_uint32_uint32.f k a0 a1) (slices_Equal_uint32_uint32.f (k + 1) a0 a1) := by
 intro a0 a1 k
 have ih0 := slices_Equal_uint32_uint32.mono_l k
 unfold slices_Equal_uint32_uint32.f
 repeat' with_reducible first | apply ih0 | exact LeO.refl _ | exact LeO.none _ | refine LeO.ite ?_ ?_ | refine LeO.bind ?_ (fun _ => ?_)
set_option maxHeartbeats 8000000 in
set_option maxRecDepth 100000 in
theorem slices_Equal_uint32_uint32.calls (k : Nat) (A0 : Option Addr) (c0 : Nat) (l0 : List Int) (A1 : Option Addr) (c1 : Nat) (l1 : List Int) (r : Bool) (w : World) (hr0 : Kd.C (Kd.int .u32) w A0 l0.length l0) (hc0 : l0.length ≤ c0) (hr1 : Kd.C (Kd.int .u32) w A1 l1.length l1) (hc1 : l1.length ≤ c1) (h : slices_Equal_uint32_uint32.f k l0 l1 = some r) :
  Calls Tryd.prog 32 #[.slice A0 l0.length c0, .slice A1 l1.length c1] w fun e w' => e = .returned (.bool r) ∧ Drawn0 w w' := by
 have HR0 := Aside0.mk hr0
 have HC0 := Aside0.mk hc0
 clear hr0 hc0
 have HR1 := Aside0.mk hr1
 have HC1 := Aside0.mk hc1
 clear hr1 hc1
 have H : (if (l0.length : Int) = (l1.length : Int) then (slices_Equal_uint32_uint32.l0 k l0 l1 (l0.length : Int) 0) else (some false)) = some r := h
 clear h
 by_cases c3 : (l0.length : Int) = (l1.length : Int)
 rotate_left
 ·
  rw [if_neg c3] at H
  have c3b0 : ((l0.length : Int) == (l1.length : Int)) = false := beq_eq_false_iff_ne.mpr c3
  have c3b1 : ((l0.length : Int) != (l1.length : Int)) = true := bne_iff_ne.mpr c3
  have c3b2 : (l0.length == l1.length) = false := by first | simpa using c3 | (simp at c3 ⊢; omega)
  obtain rfl := Option.some.inj H
  go_enter Tryd.func32, Tryd.ntmps32
  go_wp2
  repeat (go_quiet (fail); try go_wp2)
  go_ret
  exact ⟨by first | rfl | (simp; done) | (simp [*]; done), by repeat (first | exact Drawn0.refl _ | apply Drawn0.step)⟩

 rw [if_pos c3] at H
 have c3b0 : ((l0.length : Int) == (l1.length : Int)) = true := beq_iff_eq.mpr c3
 have c3b1 : ((l0.length : Int) != (l1.length : Int)) = false := bne_eq_false_iff_eq.mpr c3
 have c3b2 : (l0.length == l1.length) = true := by first | simpa using c3 | (simp at c3 ⊢; omega)
 clear c3
 have H' := Aside0.mk H
 clear H
 go_enter Tryd.func32, Tryd.ntmps32
 go_wp2
 repeat (go_quiet (fail); try go_wp2)
 go_loopg [13] k (fun kq v13 w' => ∃ (x13_1 : Int), v13 = .int .i64 x13_1 ∧ Aside0 (slices_Equal_uint32_uint32.l0 kq l0 l1 (l0.length : Int) x13_1 = some r) ∧ Aside0 (kq ≤ k) ∧ Drawn0 w w')
 case atStart => exact ⟨(0), (by first | rfl | (simp; done) | (simp [*]; done)), H', ⟨Nat.le_refl _⟩, by repeat (first | exact Drawn0.refl _ | apply Drawn0.step)⟩
 case round =>
  clear H'
  try clear c1
  try clear p2
  try clear c3
  try clear c3b0
  try clear c3b1
  try clear c3b2
  obtain ⟨x13_1, rfl, HA, HK1, ⟨m1, rfl⟩⟩ := hrel
  cases gk with
  | zero => exact absurd HA.out (by simp [slices_Equal_uint32_uint32.l0])
  | succ k1 =>
   have H := HA.out
   clear HA
   simp only [slices_Equal_uint32_uint32.l0] at H
   by_cases c4 : x13_1 < (l0.length : Int)
   rotate_left
   ·
    rw [if_neg c4] at H
    have c4b0 : decide (x13_1 < (l0.length : Int)) = false := decide_eq_false c4
    clear c4
    obtain rfl := Option.some.inj H
    go_wp2
    repeat (go_quiet (fail); try go_wp2)
    go_ret
    exact ⟨by first | rfl | (simp; done) | (simp [*]; done), by repeat (first | exact Drawn0.refl _ | apply Drawn0.step)⟩
   rw [if_pos c4] at H
   have c4b0 : decide (x13_1 < (l0.length : Int)) = true := decide_eq_true c4
   clear c4
   by_cases c5 : 0 ≤ x13_1
   rotate_left
   ·
    rw [if_neg c5] at H
    exact absurd H (by simp)
   rw [if_pos c5] at H
   have c5b0 : decide (0 ≤ x13_1) = true := decide_eq_true c5
   clear c5
   by_cases c6 : x13_1 < (l0.length : Int)
   rotate_left
   ·
    rw [if_neg c6] at H
    exact absurd H (by simp)
   rw [if_pos c6] at H
   have c6b0 : decide (x13_1 < (l0.length : Int)) = true := decide_eq_true c6
   clear c6
   by_cases c7 : x13_1 < (l1.length : Int)
   rotate_left
   ·
    rw [if_neg c7] at H
    exact absurd H (by simp)
   rw [if_pos c7] at H
   have c7b0 : decide (x13_1 < (l1.length : Int)) = true := decide_eq_true c7
   clear c7
   by_cases c8 : (rd l0 x13_1) = (rd l1 x13_1)
   ·
    rw [if_pos c8] at H
    have c8b0 : ((rd l0 x13_1) == (rd l1 x13_1)) = true := beq_iff_eq.mpr c8
    have c8b1 : ((rd l0 x13_1) != (rd l1 x13_1)) = false := bne_eq_false_iff_eq.mpr c8
    clear c8
    have H' := Aside0.mk H
    clear H
    have p406 : 0 ≤ (x13_1 : Int) := of_decide_eq_true (by first | (with_reducible assumption) | assumption)
    have q406 : x13_1 < (l0.length : Int) := of_decide_eq_true (by first | (with_reducible assumption) | assumption)
    obtain ⟨ad406, e406, hx406_0⟩ := Kd.at_int HR0.out x13_1 p406 q406
    cases e406
    replace p406 := eq_true p406
    replace q406 := eq_true q406
    have p407 : 0 ≤ (x13_1 : Int) := of_decide_eq_true (by first | (with_reducible assumption) | assumption)
    have q407 : x13_1 < (l1.length : Int) := of_decide_eq_true (by first | (with_reducible assumption) | assumption)
    obtain ⟨ad407, e407, hx407_0⟩ := Kd.at_int HR1.out x13_1 p407 q407
    cases e407
    replace p407 := eq_true p407
    replace q407 := eq_true q407
    go_wp2
    repeat (go_quiet (fail); try go_wp2)
    go_roundg k1
    case measure => have := HK1.out; omega
    case rel => exact ⟨(wrap64 (x13_1 + 1)), (by first | rfl | (simp; done) | (simp [*]; done)), H', ⟨by have := HK1.out; omega⟩, by repeat (first | exact Drawn0.refl _ | apply Drawn0.step)⟩
   ·
    rw [if_neg c8] at H
    have c8b0 : ((rd l0 x13_1) == (rd l1 x13_1)) = false := beq_eq_false_iff_ne.mpr c8
    have c8b1 : ((rd l0 x13_1) != (rd l1 x13_1)) = true := bne_iff_ne.mpr c8
    obtain rfl := Option.some.inj H
    have p406 : 0 ≤ (x13_1 : Int) := of_decide_eq_true (by first | (with_reducible assumption) | assumption)
    have q406 : x13_1 < (l0.length : Int) := of_decide_eq_true (by first | (with_reducible assumption) | assumption)
    obtain ⟨ad406, e406, hx406_0⟩ := Kd.at_int HR0.out x13_1 p406 q406
    cases e406
    replace p406 := eq_true p406
    replace q406 := eq_true q406
    have p407 : 0 ≤ (x13_1 : Int) := of_decide_eq_true (by first | (with_reducible assumption) | assumption)
    have q407 : x13_1 < (l1.length : Int) := of_decide_eq_true (by first | (with_reducible assumption) | assumption)
    obtain ⟨ad407, e407, hx407_0⟩ := Kd.at_int HR1.out x13_1 p407 q407
    cases e407
    replace p407 := eq_true p407
    replace q407 := eq_true q407
    go_wp2
    repeat (go_quiet (fail); try go_wp2)
    go_ret
    exact ⟨by first | rfl | (simp; done) | (simp [*]; done), by repeat (first | exact Drawn0.refl _ | apply Drawn0.step)⟩
/-! ### dyad_Num_Same: function 13 -/
def dyad_Num_Same.f (k : Nat) (a0_0 : Bool) (l0_1 : List Int) (a0_2 : Int) (a1_0 : Bool) (l1_1 : List Int) (a1_2 : Int) : Option (Bool) := if (a0_0 == a1_0) = true then (if a0_2 = a1_2 then ((slices_Equal_uint32_uint32.f k l0_1 l1_1).bind fun t410 => (some t410)) else (some false)) else (some false)
theorem dyad_Num_Same.mono : ∀ a0 a1 a2 a3 a4 a5 k, LeO (dyad_Num_Same.f k a0 a1 a2 a3 a4 a5) (dyad_Num_Same.f (k + 1) a0 a1 a2 a3 a4 a5) := by
 intro a0 a1 a2 a3 a4 a5 k
 unfold dyad_Num_Same.f
 repeat' with_reducible first | apply slices_Equal_uint32_uint32.mono | exact LeO.refl _ | exact LeO.none _ | refine LeO.ite ?_ ?_ | refine LeO.bind ?_ (fun _ => ?_)
set_option maxHeartbeats 8000000 in
set_option maxRecDepth 100000 in
theorem dyad_Num_Same.calls (k : Nat) (a0_0 : Bool) (A0_1 : Option Addr) (c0_1 : Nat) (l0_1 : List Int) (a0_2 : Int) (a1_0 : Bool) (A1_1 : Option Addr) (c1_1 : Nat) (l1_1 : List Int) (a1_2 : Int) (r : Bool) (w : World) (hr0_1 : Kd.C (Kd.int .u32) w A0_1 l0_1.length l0_1) (hc0_1 : l0_1.length ≤ c0_1) (hr1_1 : Kd.C (Kd.int .u32) w A1_1 l1_1.length l1_1) (hc1_1 : l1_1.length ≤ c1_1) (h : dyad_Num_Same.f k a0_0 l0_1 a0_2 a1_0 l1_1 a1_2 = some r) :
  Calls Tryd.prog 13 #[.agg #[.bool a0_0, .slice A0_1 l0_1.length c0_1, .int .i64 a0_2], .agg #[.bool a1_0, .slice A1_1 l1_1.length c1_1, .int .i64 a1_2]] w fun e w' => e = .returned (.bool r) ∧ Below w.heap.size w w' := by
 have hu29 := Tryd.underlying29
 have HR0_1 := Aside0.mk hr0_1
 have HC0_1 := Aside0.mk hc0_1
 clear hr0_1 hc0_1
 have HR1_1 := Aside0.mk hr1_1
 have HC1_1 := Aside0.mk hc1_1
 clear hr1_1 hc1_1
 have HB := Aside0.mk (Below.refl w.heap.size w)
 have H : (if (a0_0 == a1_0) = true then (if a0_2 = a1_2 then ((slices_Equal_uint32_uint32.f k l0_1 l1_1).bind fun t410 => (some t410)) else (some false)) else (some false)) = some r := h
 clear h
 by_cases c3 : (a0_0 == a1_0) = true
 rotate_left
 ·
  rw [if_neg c3] at H
  have c3b0 : (a0_0 == a1_0) = false := by simpa using c3
  (try (have c3b1 : decide (a0_0 = a1_0) = false := by simpa using c3))
  (try (have c3b2 : (a0_0 == a1_0) = false := by simpa using c3))
  (try (have c3b3 : ¬ (a0_0 = a1_0) := by simpa using c3))
  clear c3
  obtain rfl := Option.some.inj H
  go_enter Tryd.func13, Tryd.ntmps13
  go_wp2_with (first | ((with_reducible refine gate_dst (N := 2) rfl ?_); refine gbox (N := 2) (cs := #[.bool a0_0, .slice A0_1 l0_1.length c0_1, .int .i64 a0_2]) (t := 29) ?_; intro gb408 hg w16 hbox hb; refine ax4 (below_step bel hb) hbox ((ge hg : w.heap.size ≤ gb408)) ((ge hg : w.heap.size ≤ gb408)) ?_; clear HB; intro HB BK408 GW408 GE408; clear hb hbox hg) | ((with_reducible refine gate_dst (N := 3) rfl ?_); refine gbox (N := 3) (cs := #[.bool a1_0, .slice A1_1 l1_1.length c1_1, .int .i64 a1_2]) (t := 29) ?_; intro gb409 hg w17 hbox hb; refine ax7 (bb BK408 hb) (below_step bes hb) hbox ((ge hg : w.heap.size ≤ gb409)) ((ge hg : w.heap.size ≤ gb409)) (nl hg BK408) (ng hg BK408) ?_; clear BK408; clear HB; intro BK408 HB BK409 GW409 GE409 NB408_409 NB409_408; clear hb hbox hg; have hnb18 := NB408_409.out; have hnc18 := NB409_408.out; have hcz19_0 := bc BK408 0 rfl; have hcz19_1 := bc BK408 1 rfl; have hcz19_2 := bc BK408 2 rfl; have hfz19_0 := blk_frozen BK408.out 0; have hfz19_1 := blk_frozen BK408.out 1; have hfz19_2 := blk_frozen BK408.out 2; have hcz20_0 := bc BK409 0 rfl; have hcz20_1 := bc BK409 1 rfl; have hcz20_2 := bc BK409 2 rfl; have hfz20_0 := blk_frozen BK409.out 0; have hfz20_1 := blk_frozen BK409.out 1; have hfz20_2 := blk_frozen BK409.out 2))
  go_ret
  exact ⟨er, bes⟩

 rw [if_pos c3] at H
 have c3b0 : (a0_0 == a1_0) = true := c3
 (try (have c3b1 : decide (a0_0 = a1_0) = true := by simpa using c3))
 (try (have c3b2 : (a0_0 == a1_0) = true := by simpa using c3))
 clear c3
 by_cases c4 : a0_2 = a1_2
 rotate_left
 ·
  rw [if_neg c4] at H
  have c4b0 : (a0_2 == a1_2) = false := beq_eq_false_iff_ne.mpr c4
  have c4b1 : (a0_2 != a1_2) = true := bne_iff_ne.mpr c4
  obtain rfl := Option.some.inj H
  go_enter Tryd.func13, Tryd.ntmps13
  go_wp2_with (first | ((with_reducible refine gate_dst (N := 2) rfl ?_); refine gbox (N := 2) (cs := #[.bool a0_0, .slice A0_1 l0_1.length c0_1, .int .i64 a0_2]) (t := 29) ?_; intro gb408 hg w11 hbox hb; refine ax4 (below_step bel hb) hbox ((ge hg : w.heap.size ≤ gb408)) ((ge hg : w.heap.size ≤ gb408)) ?_; clear HB; intro HB BK408 GW408 GE408; clear hb hbox hg) | ((with_reducible refine gate_dst (N := 3) rfl ?_); refine gbox (N := 3) (cs := #[.bool a1_0, .slice A1_1 l1_1.length c1_1, .int .i64 a1_2]) (t := 29) ?_; intro gb409 hg w12 hbox hb; refine ax7 (bb BK408 hb) (below_step bes hb) hbox ((ge hg : w.heap.size ≤ gb409)) ((ge hg : w.heap.size ≤ gb409)) (nl hg BK408) (ng hg BK408) ?_; clear BK408; clear HB; intro BK408 HB BK409 GW409 GE409 NB408_409 NB409_408; clear hb hbox hg; have hnb13 := NB408_409.out; have hnc13 := NB409_408.out; have hcz14_0 := bc BK408 0 rfl; have hcz14_1 := bc BK408 1 rfl; have hcz14_2 := bc BK408 2 rfl; have hfz14_0 := blk_frozen BK408.out 0; have hfz14_1 := blk_frozen BK408.out 1; have hfz14_2 := blk_frozen BK408.out 2; have hcz15_0 := bc BK409 0 rfl; have hcz15_1 := bc BK409 1 rfl; have hcz15_2 := bc BK409 2 rfl; have hfz15_0 := blk_frozen BK409.out 0; have hfz15_1 := blk_frozen BK409.out 1; have hfz15_2 := blk_frozen BK409.out 2))
  go_ret
  exact ⟨er, bes⟩
 rw [if_pos c4] at H
 have c4b0 : (a0_2 == a1_2) = true := beq_iff_eq.mpr c4
 have c4b1 : (a0_2 != a1_2) = false := bne_eq_false_iff_eq.mpr c4
 clear c4
 obtain ⟨t410, A50, H⟩ := Option.bind_eq_some_iff.mp H
 (try dsimp -simprocs only at H)
 have A5 := Aside0.mk A50
 clear A50
 obtain rfl := Option.some.inj H
 go_enter Tryd.func13, Tryd.ntmps13
 go_wp2_with (first | ((with_reducible refine gate_dst (N := 2) rfl ?_); refine gbox (N := 2) (cs := #[.bool a0_0, .slice A0_1 l0_1.length c0_1, .int .i64 a0_2]) (t := 29) ?_; intro gb408 hg w6 hbox hb; refine ax4 (below_step bel hb) hbox ((ge hg : w.heap.size ≤ gb408)) ((ge hg : w.heap.size ≤ gb408)) ?_; clear HB; intro HB BK408 GW408 GE408; clear hb hbox hg) | ((with_reducible refine gate_dst (N := 3) rfl ?_); refine gbox (N := 3) (cs := #[.bool a1_0, .slice A1_1 l1_1.length c1_1, .int .i64 a1_2]) (t := 29) ?_; intro gb409 hg w7 hbox hb; refine ax7 (bb BK408 hb) (below_step bes hb) hbox ((ge hg : w.heap.size ≤ gb409)) ((ge hg : w.heap.size ≤ gb409)) (nl hg BK408) (ng hg BK408) ?_; clear BK408; clear HB; intro BK408 HB BK409 GW409 GE409 NB408_409 NB409_408; clear hb hbox hg; have hnb8 := NB408_409.out; have hnc8 := NB409_408.out; have hcz9_0 := bc BK408 0 rfl; have hcz9_1 := bc BK408 1 rfl; have hcz9_2 := bc BK408 2 rfl; have hfz9_0 := blk_frozen BK408.out 0; have hfz9_1 := blk_frozen BK408.out 1; have hfz9_2 := blk_frozen BK408.out 2; have hcz10_0 := bc BK409 0 rfl; have hcz10_1 := bc BK409 1 rfl; have hcz10_2 := bc BK409 2 rfl; have hfz10_0 := blk_frozen BK409.out 0; have hfz10_1 := blk_frozen BK409.out 1; have hfz10_2 := blk_frozen BK409.out 2) | (go_at_call 32; (with_reducible refine (slices_Equal_uint32_uint32.calls k _ _ l0_1 _ _ l1_1 t410 _ ?side1 ?side2 ?side3 ?side4 A5.out).mono ?_); (case side1 => repeat (first | exact (Kd.C_below HR0_1.out HB.out) | (with_reducible refine Kd.C_alloc ?_ _) | (with_reducible refine Kd.C_drewN ?_ _) | (with_reducible refine Kd.C_drew ?_))); (case side2 => exact HC0_1.out); (case side3 => repeat (first | exact (Kd.C_below HR1_1.out HB.out) | (with_reducible refine Kd.C_alloc ?_ _) | (with_reducible refine Kd.C_drewN ?_ _) | (with_reducible refine Kd.C_drew ?_))); (case side4 => exact HC1_1.out); rintro e w' ⟨rfl, ⟨nd, rfl⟩⟩))
 go_ret
 exact ⟨er, bes⟩
end Go.Proofs.YtenegelkbfmjkaaDoor.F
