-- Written by a program of this seat's session (mkprint), out of the translation.
import Derived.Test.YtkkfghecmhmdpaaShort
import Derived.Test.YtkkfghecmhmdpaaFx0
import Derived.Test.YtkkfghecmhmdpaaFx2
import Derived.Test.YtkkfghecmhmdpaaFx5
import Derived.Test.YtkkfghecmhmdpaaFx8
import Derived.Test.YtkkfghecmhmdpaaFx9
namespace Go.Proofs.Ytkkfghecmhmdpaa.F
open Go.RowKit Go.Proofs.YtkkfghecmhmdpaaW.PrintWords Go.Proofs.YtkkfghecmhmdpaaW.PrintLast Go.Proofs.YtkkfghecmhmdpaaW.PrintMore
attribute [local go_sem] max2_int min2_int max_two min_two max_three min_three max_four min_four   -- for this text's walks alone
set_option linter.unusedVariables false
set_option linter.unusedSimpArgs false

/-! ### word_Finite: function 14 -/
def word_Finite.f (a0 : Int) : Option (Bool) := (word_Exp.f a0).bind fun t357 => (some (decide (t357 < 2047)))
set_option maxHeartbeats 8000000 in
set_option maxRecDepth 100000 in
theorem word_Finite.calls (a0 : Int) (r : Bool) (w : World) (h : word_Finite.f a0 = some r) :
  Calls Try.prog 14 #[.int .u64 a0] w fun e w' => e = .returned (.bool r) ∧ Drawn0 w w' := by
 have H : ((word_Exp.f a0).bind fun t357 => (some (decide (t357 < 2047)))) = some r := h
 clear h
 obtain ⟨t357, A20, H⟩ := Option.bind_eq_some_iff.mp H
 (try dsimp -simprocs only at H)
 have A2 := Aside0.mk A20
 clear A20
 obtain rfl := Option.some.inj H
 go_enter Try.func14, Try.ntmps14
 go_wp2_with (first | ((with_reducible refine gate_callee (f := 35) rfl ?_); refine goesL_ (some 4) rfl rfl Try.func35 (by kernel_rfl) rfl #[.int .u64 a0] rfl ga ?_; (with_reducible refine (word_Exp.calls a0 t357 _ A2.out).mono ?_); rintro e w' ⟨rfl, ⟨nd, rfl⟩⟩; refine ⟨_, rfl, ?_⟩))
 go_ret
 exact ⟨by first | rfl | (simp; done) | (simp [*]; done), by repeat (first | exact Drawn0.refl _ | apply Drawn0.step)⟩

/-! ### gimballaw10_VecPower: function 4 -/
def gimballaw10_VecPower.l0 : Nat → List Int → Int → List Int → List Int → Int → Int → Option (Bool)
 | 0, _, _, _, _, _, _ => none
 | k + 1, x0, x1, x5, x24, x25, x26 => if x26 < x25 then (if 0 ≤ x26 then (if x26 < (x24.length : Int) then ((more_Scale.f k (rd x24 x26) x1).bind fun bt370 => (if bt370.2 = 0 then ((word_Finite.f (rd x24 x26)).bind fun t372 => (if t372 = true then (if x5.length < 17592186044416 then (gimballaw10_VecPower.l0 k x0 x1 (x5 ++ [bt370.1]) x24 x25 (wrap64 (x26 + 1))) else (none)) else (some true))) else (some true))) else (none)) else (none)) else ((vec_Nrm2.f k 0 x0).bind fun bt363 => ((vec_Nrm2.f k bt363.2 x5).bind fun bt365 => ((more_Scale.f k bt363.1 x1).bind fun bt367 => (if (Go.bits .and .u8 bt365.2 6) = 0 then (if bt367.2 = 0 then (some (bt365.1 == bt367.1)) else (some true)) else (some true)))))
def gimballaw10_VecPower.f (k : Nat) (l0 : List Int) (a1 : Int) : Option (Bool) := (gimballaw10_head.f k).bind fun t358 => (if t358 = true then (if (l0.length : Int) > 40 then (some true) else (gimballaw10_VecPower.l0 k l0 (wrap64 ((Go.bits .and .i64 a1 255) - 128)) (([] : List Int)) l0 (l0.length : Int) 0)) else (some false))
theorem gimballaw10_VecPower.mono_l : ∀ k, (∀ y0 y1 y2 y3 y4 y5, LeO (gimballaw10_VecPower.l0 k y0 y1 y2 y3 y4 y5) (gimballaw10_VecPower.l0 (k + 1) y0 y1 y2 y3 y4 y5))
 | 0 => fun _ _ _ _ _ _ r h => by simp [gimballaw10_VecPower.l0] at h
 | k + 1 => by
  have ih0 := gimballaw10_VecPower.mono_l k
  ·
   intro y0 y1 y2 y3 y4 y5
   unfold gimballaw10_VecPower.l0
   repeat' with_reducible first | apply ih0 | apply gimballaw10_head.mono | apply more_Scale.mono | apply vec_Nrm2.mono | exact LeO.refl _ | exact LeO.none _ | refine LeO.ite ?_ ?_ | refine LeO.bind ?_ (fun _ => ?_)
theorem gimballaw10_VecPower.mono : ∀ a0 a1 k, LeO (gimballaw10_VecPower.f k a0 a1) (gimballaw10_VecPower.f (k + 1) a0 a1) := by
 intro a0 a1 k
 have ih0 := gimballaw10_VecPower.mono_l k
 unfold gimballaw10_VecPower.f
 repeat' with_reducible first | apply ih0 | apply gimballaw10_head.mono | apply more_Scale.mono | apply vec_Nrm2.mono | exact LeO.refl _ | exact LeO.none _ | refine LeO.ite ?_ ?_ | refine LeO.bind ?_ (fun _ => ?_)
set_option maxHeartbeats 8000000 in
set_option maxRecDepth 100000 in
theorem gimballaw10_VecPower.calls (k : Nat) (A0 : Option Addr) (c0 : Nat) (l0 : List Int) (a1 : Int) (r : Bool) (w : World) (hr0 : Kd.C (Kd.int .u64) w A0 l0.length l0) (hc0 : l0.length ≤ c0) (hLW : r = true) (h : gimballaw10_VecPower.f k l0 a1 = some r) :
  Calls Try.prog 4 #[.slice A0 l0.length c0, .int .i64 a1] w fun e w' => e = .returned (.bool r) ∧ Below w.heap.size w w' := by
 have hu27 := Try.underlying27
 have HR0 := Aside0.mk hr0
 have HC0 := Aside0.mk hc0
 clear hr0 hc0
 have HB := Aside0.mk (Below.refl w.heap.size w)
 have H : ((gimballaw10_head.f k).bind fun t358 => (if t358 = true then (if (l0.length : Int) > 40 then (some true) else (gimballaw10_VecPower.l0 k l0 (wrap64 ((Go.bits .and .i64 a1 255) - 128)) (([] : List Int)) l0 (l0.length : Int) 0)) else (some false))) = some r := h
 clear h
 obtain ⟨t358, A30, H⟩ := Option.bind_eq_some_iff.mp H
 (try dsimp -simprocs only at H)
 have A3 := Aside0.mk A30
 clear A30
 by_cases c4 : t358 = true
 rotate_left
 ·
  replace c4 := Bool.eq_false_iff.mpr c4
  subst c4
  rw [if_neg (show ¬ (false = true) by decide)] at H
  rw [hLW] at H
  exact absurd H (by simp)

 subst c4
 rw [if_pos rfl] at H
 by_cases c5 : (l0.length : Int) > 40
 ·
  rw [if_pos c5] at H
  have c5b0 : decide (40 < (l0.length : Int)) = true := decide_eq_true c5
  have c5b1 : decide (40 < l0.length) = true := decide_eq_true (by omega)
  clear c5
  obtain rfl := Option.some.inj H
  go_enter Try.func4, Try.ntmps4
  go_wp2_with (first | ((with_reducible refine gate_callee (f := 6) rfl ?_); refine goesL_ (some 15) rfl rfl Try.func6 (by kernel_rfl) rfl #[] rfl ga ?_; (with_reducible refine (gimballaw10_head.calls k  true _ A3.out).mono ?_); rintro e w6 ⟨rfl, hb⟩; refine ⟨_, rfl, ?_⟩; refine ax1 (below_step bel hb) ?_; clear HB; intro HB; (try clear hb)))
  go_ret
  exact ⟨er, bel⟩
 ·
  rw [if_neg c5] at H
  have c5b0 : decide (40 < (l0.length : Int)) = false := decide_eq_false c5
  have c5b1 : decide (40 < l0.length) = false := decide_eq_false (by omega)
  clear c5
  obtain ⟨y359, hy359⟩ : ∃ y_ : List Int, y_ = (([] : List Int)) := ⟨_, rfl⟩
  replace H : (gimballaw10_VecPower.l0 k l0 (wrap64 ((Go.bits .and .i64 a1 255) - 128)) y359 l0 (l0.length : Int) 0) = some r := by first | (rw [hy359]; with_reducible exact H) | (have H2_ := (Option.bind_some _ _).symm.trans H; rw [hy359]; with_reducible exact H2_) | (have H2_ := (Option.bind_some _ _).symm.trans H; with_reducible exact H2_) | with_reducible exact H | (rw [hy359]; exact H) | exact H
  have Ny359 := Aside0.mk hy359
  clear hy359
  have H' := Aside0.mk H
  clear H
  go_enter Try.func4, Try.ntmps4
  go_wp2_with (first | ((with_reducible refine gate_callee (f := 6) rfl ?_); refine goesL_ (some 15) rfl rfl Try.func6 (by kernel_rfl) rfl #[] rfl ga ?_; (with_reducible refine (gimballaw10_head.calls k  true _ A3.out).mono ?_); rintro e w7 ⟨rfl, hb⟩; refine ⟨_, rfl, ?_⟩; refine ax1 (below_step bel hb) ?_; clear HB; intro HB; (try clear hb)) | ((with_reducible refine gate_dst (N := 23) rfl ?_); refine Kd.R_lit (Kd.int .u64) _ 28 ?hg (N := 23) ?hd (xs := ([] : List Int)) (inner := []) (ok := fun _ => True) (okp := fun _ => True) ?hr ?hp (fun _ hk => hk) trivial (Below.refl _ _) (Nat.le_refl _) (by simp) ?_; (case hd => rfl); (case hg => rfl); (case hr => first | (go_simp; done) | (go_simp; rfl)); (case hp => exact (Reps.none _ _)); intro v360 w8 ho9 hb hg_ hnew_; clear hg_ hnew_; (first | rw [← Ny359.out] at ho9 | (simp only [Int.reduceToNat] at ho9; rw [← Ny359.out] at ho9)); refine ax2 (Kd.R_lower ho9 (below_size bel)) (below_step bel hb) ?_; clear HB; intro HO361 HB; clear hb ho9))
  go_loopg [5, 26] k (fun kq v5 v26 w' => ∃ (x5_1 : List Int) (x26_1 : Int), v26 = .int .i64 x26_1 ∧ Aside0 (gimballaw10_VecPower.l0 kq l0 (wrap64 ((Go.bits .and .i64 a1 255) - 128)) x5_1 l0 (l0.length : Int) x26_1 = some r) ∧ Aside0 (kq ≤ k) ∧ Aside0 (Kd.R (Kd.int .u64) 28 w' w.heap.size (fun _ => True) v5 x5_1) ∧ Aside0 (Below w.heap.size w w'))
  case atStart => exact ⟨(y359), (0), (by first | rfl | (simp; done) | (simp [*]; done)), H', ⟨Nat.le_refl _⟩, ⟨kr HO361⟩, ⟨bel⟩⟩
  case round =>
   clear H'
   try clear p2
   try clear c4
   try clear c5
   try clear c5b0
   try clear c5b1
   try clear c6
   try clear p6
   obtain ⟨x5_1, x26_1, rfl, HA, HK1, HO_5, HB⟩ := hrel
   cases gk with
   | zero => exact absurd HA.out (by simp [gimballaw10_VecPower.l0])
   | succ k1 =>
    have H := HA.out
    clear HA
    simp only [gimballaw10_VecPower.l0] at H
    by_cases c10 : x26_1 < (l0.length : Int)
    ·
     rw [if_pos c10] at H
     have c10b0 : decide (x26_1 < (l0.length : Int)) = true := decide_eq_true c10
     clear c10
     by_cases c11 : 0 ≤ x26_1
     rotate_left
     ·
      rw [if_neg c11] at H
      exact absurd H (by simp)
     rw [if_pos c11] at H
     have c11b0 : decide (0 ≤ x26_1) = true := decide_eq_true c11
     clear c11
     by_cases c12 : x26_1 < (l0.length : Int)
     rotate_left
     ·
      rw [if_neg c12] at H
      exact absurd H (by simp)
     rw [if_pos c12] at H
     have c12b0 : decide (x26_1 < (l0.length : Int)) = true := decide_eq_true c12
     clear c12
     obtain ⟨⟨t370, t371⟩, A130, H⟩ := Option.bind_eq_some_iff.mp H
     (try dsimp -simprocs only at H)
     have A13 := Aside0.mk A130
     clear A130
     by_cases c14 : t371 = 0
     ·
      rw [if_pos c14] at H
      have c14b0 : (t371 == 0) = true := beq_iff_eq.mpr c14
      have c14b1 : (t371 != 0) = false := bne_eq_false_iff_eq.mpr c14
      clear c14
      obtain ⟨t372, A150, H⟩ := Option.bind_eq_some_iff.mp H
      (try dsimp -simprocs only at H)
      have A15 := Aside0.mk A150
      clear A150
      by_cases c16 : t372 = true
      ·
       subst c16
       rw [if_pos rfl] at H
       by_cases c17 : x5_1.length < 17592186044416
       rotate_left
       ·
        rw [if_neg c17] at H
        exact absurd H (by simp)
       rw [if_pos c17] at H
       have LMc17 := Aside0.mk c17
       clear c17
       obtain ⟨y373, hy373⟩ : ∃ y_ : List Int, y_ = (x5_1 ++ [t370]) := ⟨_, rfl⟩
       replace H : (gimballaw10_VecPower.l0 k1 l0 (wrap64 ((Go.bits .and .i64 a1 255) - 128)) y373 l0 (l0.length : Int) (wrap64 (x26_1 + 1))) = some r := by first | (rw [hy373]; with_reducible exact H) | (have H2_ := (Option.bind_some _ _).symm.trans H; rw [hy373]; with_reducible exact H2_) | (have H2_ := (Option.bind_some _ _).symm.trans H; with_reducible exact H2_) | with_reducible exact H | (rw [hy373]; exact H) | exact H
       have Ny373 := Aside0.mk hy373
       clear hy373
       have H' := Aside0.mk H
       clear H
       have p369 : 0 ≤ (x26_1 : Int) := of_decide_eq_true (by first | (with_reducible assumption) | assumption)
       have q369 : x26_1 < (l0.length : Int) := of_decide_eq_true (by first | (with_reducible assumption) | assumption)
       obtain ⟨ad369, e369, hx369_0⟩ := Kd.at_int HR0.out x26_1 p369 q369
       cases e369
       replace hx369_0 := (HB.out.cell (World.block_lt_of_cell? w _ hx369_0)).trans hx369_0
       replace p369 := eq_true p369
       replace q369 := eq_true q369
       go_wp2_with (first | ((with_reducible refine gate_callee (f := 10) rfl ?_); refine goesL_ (some 33) rfl rfl Try.func10 (by kernel_rfl) rfl #[.int .u64 (rd l0 x26_1), .int .i64 (wrap64 ((Go.bits .and .i64 a1 255) - 128))] rfl ga ?_; (with_reducible refine (more_Scale.calls k1 (rd l0 x26_1) (wrap64 ((Go.bits .and .i64 a1 255) - 128)) t370 t371 _ A13.out).mono ?_); rintro e w18 ⟨rfl, hb⟩; refine ⟨_, rfl, ?_⟩; refine ax2 (Kd.R_below (kr HO_5) hb) (below_step bel hb) ?_; clear HO_5; clear HB; intro HO_5 HB; (try clear hb)) | (go_at_call 14; (with_reducible refine (word_Finite.calls (rd l0 x26_1) true _ A15.out).mono ?_); rintro e w' ⟨rfl, ⟨nd, rfl⟩⟩) | ((with_reducible refine gate_builtin (b := .append) (xs := #[.tmp 43, .tmp 45]) rfl ?_); at_builtin; refine Kd.R_append (Kd.int .u64) (w0 := w) w.heap.size rfl (.tmp 43) (.tmp 45) 22 28 (.int .u64 0) 8 rfl Try.underlying22 info28 rfl (by decide) (by omega) u5 x5_1 t370 [.int .u64 t370] (fun _ => True) (fun _ => False) rfl rfl ?aP (fun _ hk => hk.elim) ?aF ?aO ?aB ?aS ?aL ?_; (case aP => exact rfl); (case aB => exact bel); (case aF => exact (fun _ _ => trivial)); (case aO => exact (kr HO_5)); (case aS => exact (below_size bel)); (case aL => have := LMc17.out; omega); intro v374 w19 ho hb hg hat; rw [← Ny373.out] at ho; refine ax2 hb ho ?_; clear HB; clear HO_5; intro HB HO375; clear ho hb hg hat))
       go_roundg k1
       case measure => have := HK1.out; omega
       case rel => exact ⟨(y373), (wrap64 (x26_1 + 1)), (by first | rfl | (simp; done) | (simp [*]; done)), H', ⟨by have := HK1.out; omega⟩, ⟨kr HO375⟩, ⟨bel⟩⟩
      ·
       replace c16 := Bool.eq_false_iff.mpr c16
       subst c16
       rw [if_neg (show ¬ (false = true) by decide)] at H
       obtain rfl := Option.some.inj H
       have p369 : 0 ≤ (x26_1 : Int) := of_decide_eq_true (by first | (with_reducible assumption) | assumption)
       have q369 : x26_1 < (l0.length : Int) := of_decide_eq_true (by first | (with_reducible assumption) | assumption)
       obtain ⟨ad369, e369, hx369_0⟩ := Kd.at_int HR0.out x26_1 p369 q369
       cases e369
       replace hx369_0 := (HB.out.cell (World.block_lt_of_cell? w _ hx369_0)).trans hx369_0
       replace p369 := eq_true p369
       replace q369 := eq_true q369
       go_wp2_with (first | ((with_reducible refine gate_callee (f := 10) rfl ?_); refine goesL_ (some 33) rfl rfl Try.func10 (by kernel_rfl) rfl #[.int .u64 (rd l0 x26_1), .int .i64 (wrap64 ((Go.bits .and .i64 a1 255) - 128))] rfl ga ?_; (with_reducible refine (more_Scale.calls k1 (rd l0 x26_1) (wrap64 ((Go.bits .and .i64 a1 255) - 128)) t370 t371 _ A13.out).mono ?_); rintro e w20 ⟨rfl, hb⟩; refine ⟨_, rfl, ?_⟩; refine ax2 (Kd.R_below (kr HO_5) hb) (below_step bel hb) ?_; clear HO_5; clear HB; intro HO_5 HB; (try clear hb)) | (go_at_call 14; (with_reducible refine (word_Finite.calls (rd l0 x26_1) false _ A15.out).mono ?_); rintro e w' ⟨rfl, ⟨nd, rfl⟩⟩))
       go_ret
       exact ⟨er, bel⟩
     ·
      rw [if_neg c14] at H
      have c14b0 : (t371 == 0) = false := beq_eq_false_iff_ne.mpr c14
      have c14b1 : (t371 != 0) = true := bne_iff_ne.mpr c14
      obtain rfl := Option.some.inj H
      have p369 : 0 ≤ (x26_1 : Int) := of_decide_eq_true (by first | (with_reducible assumption) | assumption)
      have q369 : x26_1 < (l0.length : Int) := of_decide_eq_true (by first | (with_reducible assumption) | assumption)
      obtain ⟨ad369, e369, hx369_0⟩ := Kd.at_int HR0.out x26_1 p369 q369
      cases e369
      replace hx369_0 := (HB.out.cell (World.block_lt_of_cell? w _ hx369_0)).trans hx369_0
      replace p369 := eq_true p369
      replace q369 := eq_true q369
      go_wp2_with (first | ((with_reducible refine gate_callee (f := 10) rfl ?_); refine goesL_ (some 33) rfl rfl Try.func10 (by kernel_rfl) rfl #[.int .u64 (rd l0 x26_1), .int .i64 (wrap64 ((Go.bits .and .i64 a1 255) - 128))] rfl ga ?_; (with_reducible refine (more_Scale.calls k1 (rd l0 x26_1) (wrap64 ((Go.bits .and .i64 a1 255) - 128)) t370 t371 _ A13.out).mono ?_); rintro e w21 ⟨rfl, hb⟩; refine ⟨_, rfl, ?_⟩; refine ax2 (Kd.R_below (kr HO_5) hb) (below_step bel hb) ?_; clear HO_5; clear HB; intro HO_5 HB; (try clear hb)))
      go_ret
      exact ⟨er, bel⟩
    ·
     rw [if_neg c10] at H
     have c10b0 : decide (x26_1 < (l0.length : Int)) = false := decide_eq_false c10
     clear c10
     obtain ⟨⟨t363, t364⟩, A220, H⟩ := Option.bind_eq_some_iff.mp H
     (try dsimp -simprocs only at H)
     have A22 := Aside0.mk A220
     clear A220
     obtain ⟨⟨t365, t366⟩, A230, H⟩ := Option.bind_eq_some_iff.mp H
     (try dsimp -simprocs only at H)
     have A23 := Aside0.mk A230
     clear A230
     obtain ⟨⟨t367, t368⟩, A240, H⟩ := Option.bind_eq_some_iff.mp H
     (try dsimp -simprocs only at H)
     have A24 := Aside0.mk A240
     clear A240
     by_cases c25 : (Go.bits .and .u8 t366 6) = 0
     rotate_left
     ·
      rw [if_neg c25] at H
      have c25b0 : ((Go.bits .and .u8 t366 6) == 0) = false := beq_eq_false_iff_ne.mpr c25
      have c25b1 : ((Go.bits .and .u8 t366 6) != 0) = true := bne_iff_ne.mpr c25
      obtain rfl := Option.some.inj H
      go_wp2_with (first | ((with_reducible refine gate_dst (N := 49) rfl ?_); refine gbox (N := 49) (cs := #[.int .u8 0]) (t := 27) ?_; intro gb362 hg w39 hbox hb; refine ax5 (Kd.R_below (kr HO_5) hb) (below_step bel hb) ((ge hg : w.heap.size ≤ gb362)) ((ge hg : w.heap.size ≤ gb362)) ((show IsS27 w _ gb362 0 from ⟨hbox, (ge hg : w.heap.size ≤ gb362)⟩)) ?_; clear HO_5; clear HB; intro HO_5 HB GW362 GE362 HI362; clear hb hbox hg) | ((with_reducible refine gate_callee (f := 7) rfl ?_); refine goesL_ (some 52) rfl rfl Try.func7 (by kernel_rfl) rfl #[.pointer (some ⟨gb362, 0, none⟩), .slice A0 l0.length c0] rfl ga ?_; (with_reducible refine (vec_Nrm2.calls k1 gb362 0 _ _ l0 t363 t364 w _ ?side1 ?side2 ?side3 ?side4 ?side5 A22.out).mono ?_); (case side1 => repeat (first | (with_reducible first | exact HI362.out | apply IsS27.alloc | apply IsS27.drewN | apply IsS27.drew | apply IsS27.set_0) | exact HI362.out)); (case side2 => repeat (first | (with_reducible first | exact HB.out | apply below_alloc | apply pw_below_drewN | apply below_drew1 | refine below_set ?_ (IsS27.ge HI362.out)) | exact HB.out)); (case side3 => repeat (first | exact (Kd.C_below HR0.out HB.out) | (with_reducible refine Kd.C_alloc ?_ _) | (with_reducible refine Kd.C_drewN ?_ _) | (with_reducible refine Kd.C_drew ?_))); (case side4 => exact HC0.out); (case side5 => exact Kd.far_C 0 HR0.out (IsS27.ge HI362.out)); rintro e w40 ⟨rfl, hi, hb, hk⟩; refine ⟨_, rfl, ?_⟩; refine ax3 (Kd.R_mono (Kd.R_keep (IsS27.apart (show IsS27 w _ gb362 0 from by repeat (first | (with_reducible first | exact HI362.out | apply IsS27.alloc | apply IsS27.drewN | apply IsS27.drew | apply IsS27.set_0) | exact HI362.out)) (kr HO_5) (by decide)) hk (fun _ h => h.2)) (fun _ h => h.1)) hb hi ?_; clear HO_5; clear HB; clear HI362; intro HO_5 HB HI362; (try clear hb); obtain ⟨Ao41, co41, eo41⟩ := Kd.R_slice HO_5.out; subst eo41) | ((with_reducible refine gate_callee (f := 7) rfl ?_); refine goesL_ (some 55) rfl rfl Try.func7 (by kernel_rfl) rfl #[.pointer (some ⟨gb362, 0, none⟩), .slice Ao41 x5_1.length co41] rfl ga ?_; (with_reducible refine (vec_Nrm2.calls k1 gb362 t364 _ _ x5_1 t365 t366 w _ ?side1 ?side2 ?side3 ?side4 ?side5 A23.out).mono ?_); (case side1 => repeat (first | (with_reducible first | exact HI362.out | apply IsS27.alloc | apply IsS27.drewN | apply IsS27.drew | apply IsS27.set_0) | exact HI362.out)); (case side2 => repeat (first | (with_reducible first | exact HB.out | apply below_alloc | apply pw_below_drewN | apply below_drew1 | refine below_set ?_ (IsS27.ge HI362.out)) | exact HB.out)); (case side3 => exact ks HO_5); (case side4 => exact (Kd.R_reads' HO_5.out).2.1); (case side5 => exact far_slice (IsS27.own_ne HI362.out HO_5.out (by decide))); rintro e w42 ⟨rfl, hi, hb, hk⟩; refine ⟨_, rfl, ?_⟩; refine ax3 (Kd.R_mono (Kd.R_keep (IsS27.apart (show IsS27 w _ gb362 t364 from by repeat (first | (with_reducible first | exact HI362.out | apply IsS27.alloc | apply IsS27.drewN | apply IsS27.drew | apply IsS27.set_0) | exact HI362.out)) (kr HO_5) (by decide)) hk (fun _ h => h.2)) (fun _ h => h.1)) hb hi ?_; clear HO_5; clear HB; clear HI362; intro HO_5 HB HI362; (try clear hb)) | ((with_reducible refine gate_callee (f := 10) rfl ?_); refine goesL_ (some 59) rfl rfl Try.func10 (by kernel_rfl) rfl #[.int .u64 t363, .int .i64 (wrap64 ((Go.bits .and .i64 a1 255) - 128))] rfl ga ?_; (with_reducible refine (more_Scale.calls k1 t363 (wrap64 ((Go.bits .and .i64 a1 255) - 128)) t367 t368 _ A24.out).mono ?_); rintro e w43 ⟨rfl, hb⟩; refine ⟨_, rfl, ?_⟩; refine ax3 (Kd.R_below (kr HO_5) hb) (IsS27.below (by repeat (first | (with_reducible first | exact HI362.out | apply IsS27.alloc | apply IsS27.drewN | apply IsS27.drew | apply IsS27.set_0) | exact HI362.out)) hb) (below_step (by repeat (first | (with_reducible first | exact HB.out | apply below_alloc | apply pw_below_drewN | apply below_drew1 | refine below_set ?_ (IsS27.ge HI362.out)) | exact HB.out)) hb) ?_; clear HO_5; clear HI362; clear HB; intro HO_5 HI362 HB; (try clear hb); obtain ⟨HGz44, hgz44⟩ := HI362.out; have hcz44_0 := cellS27_0 HGz44; have hfz44_0 := blk_frozen HGz44 0; clear HGz44 hgz44))
      go_ret
      exact ⟨er, by repeat (first | (with_reducible first | exact HB.out | apply below_alloc | apply pw_below_drewN | apply below_drew1 | refine below_set ?_ (IsS27.ge HI362.out)) | exact HB.out)⟩
     rw [if_pos c25] at H
     have c25b0 : ((Go.bits .and .u8 t366 6) == 0) = true := beq_iff_eq.mpr c25
     have c25b1 : ((Go.bits .and .u8 t366 6) != 0) = false := bne_eq_false_iff_eq.mpr c25
     clear c25
     by_cases c26 : t368 = 0
     rotate_left
     ·
      rw [if_neg c26] at H
      have c26b0 : (t368 == 0) = false := beq_eq_false_iff_ne.mpr c26
      have c26b1 : (t368 != 0) = true := bne_iff_ne.mpr c26
      obtain rfl := Option.some.inj H
      go_wp2_with (first | ((with_reducible refine gate_dst (N := 49) rfl ?_); refine gbox (N := 49) (cs := #[.int .u8 0]) (t := 27) ?_; intro gb362 hg w33 hbox hb; refine ax5 (Kd.R_below (kr HO_5) hb) (below_step bel hb) ((ge hg : w.heap.size ≤ gb362)) ((ge hg : w.heap.size ≤ gb362)) ((show IsS27 w _ gb362 0 from ⟨hbox, (ge hg : w.heap.size ≤ gb362)⟩)) ?_; clear HO_5; clear HB; intro HO_5 HB GW362 GE362 HI362; clear hb hbox hg) | ((with_reducible refine gate_callee (f := 7) rfl ?_); refine goesL_ (some 52) rfl rfl Try.func7 (by kernel_rfl) rfl #[.pointer (some ⟨gb362, 0, none⟩), .slice A0 l0.length c0] rfl ga ?_; (with_reducible refine (vec_Nrm2.calls k1 gb362 0 _ _ l0 t363 t364 w _ ?side1 ?side2 ?side3 ?side4 ?side5 A22.out).mono ?_); (case side1 => repeat (first | (with_reducible first | exact HI362.out | apply IsS27.alloc | apply IsS27.drewN | apply IsS27.drew | apply IsS27.set_0) | exact HI362.out)); (case side2 => repeat (first | (with_reducible first | exact HB.out | apply below_alloc | apply pw_below_drewN | apply below_drew1 | refine below_set ?_ (IsS27.ge HI362.out)) | exact HB.out)); (case side3 => repeat (first | exact (Kd.C_below HR0.out HB.out) | (with_reducible refine Kd.C_alloc ?_ _) | (with_reducible refine Kd.C_drewN ?_ _) | (with_reducible refine Kd.C_drew ?_))); (case side4 => exact HC0.out); (case side5 => exact Kd.far_C 0 HR0.out (IsS27.ge HI362.out)); rintro e w34 ⟨rfl, hi, hb, hk⟩; refine ⟨_, rfl, ?_⟩; refine ax3 (Kd.R_mono (Kd.R_keep (IsS27.apart (show IsS27 w _ gb362 0 from by repeat (first | (with_reducible first | exact HI362.out | apply IsS27.alloc | apply IsS27.drewN | apply IsS27.drew | apply IsS27.set_0) | exact HI362.out)) (kr HO_5) (by decide)) hk (fun _ h => h.2)) (fun _ h => h.1)) hb hi ?_; clear HO_5; clear HB; clear HI362; intro HO_5 HB HI362; (try clear hb); obtain ⟨Ao35, co35, eo35⟩ := Kd.R_slice HO_5.out; subst eo35) | ((with_reducible refine gate_callee (f := 7) rfl ?_); refine goesL_ (some 55) rfl rfl Try.func7 (by kernel_rfl) rfl #[.pointer (some ⟨gb362, 0, none⟩), .slice Ao35 x5_1.length co35] rfl ga ?_; (with_reducible refine (vec_Nrm2.calls k1 gb362 t364 _ _ x5_1 t365 t366 w _ ?side1 ?side2 ?side3 ?side4 ?side5 A23.out).mono ?_); (case side1 => repeat (first | (with_reducible first | exact HI362.out | apply IsS27.alloc | apply IsS27.drewN | apply IsS27.drew | apply IsS27.set_0) | exact HI362.out)); (case side2 => repeat (first | (with_reducible first | exact HB.out | apply below_alloc | apply pw_below_drewN | apply below_drew1 | refine below_set ?_ (IsS27.ge HI362.out)) | exact HB.out)); (case side3 => exact ks HO_5); (case side4 => exact (Kd.R_reads' HO_5.out).2.1); (case side5 => exact far_slice (IsS27.own_ne HI362.out HO_5.out (by decide))); rintro e w36 ⟨rfl, hi, hb, hk⟩; refine ⟨_, rfl, ?_⟩; refine ax3 (Kd.R_mono (Kd.R_keep (IsS27.apart (show IsS27 w _ gb362 t364 from by repeat (first | (with_reducible first | exact HI362.out | apply IsS27.alloc | apply IsS27.drewN | apply IsS27.drew | apply IsS27.set_0) | exact HI362.out)) (kr HO_5) (by decide)) hk (fun _ h => h.2)) (fun _ h => h.1)) hb hi ?_; clear HO_5; clear HB; clear HI362; intro HO_5 HB HI362; (try clear hb)) | ((with_reducible refine gate_callee (f := 10) rfl ?_); refine goesL_ (some 59) rfl rfl Try.func10 (by kernel_rfl) rfl #[.int .u64 t363, .int .i64 (wrap64 ((Go.bits .and .i64 a1 255) - 128))] rfl ga ?_; (with_reducible refine (more_Scale.calls k1 t363 (wrap64 ((Go.bits .and .i64 a1 255) - 128)) t367 t368 _ A24.out).mono ?_); rintro e w37 ⟨rfl, hb⟩; refine ⟨_, rfl, ?_⟩; refine ax3 (Kd.R_below (kr HO_5) hb) (IsS27.below (by repeat (first | (with_reducible first | exact HI362.out | apply IsS27.alloc | apply IsS27.drewN | apply IsS27.drew | apply IsS27.set_0) | exact HI362.out)) hb) (below_step (by repeat (first | (with_reducible first | exact HB.out | apply below_alloc | apply pw_below_drewN | apply below_drew1 | refine below_set ?_ (IsS27.ge HI362.out)) | exact HB.out)) hb) ?_; clear HO_5; clear HI362; clear HB; intro HO_5 HI362 HB; (try clear hb); obtain ⟨HGz38, hgz38⟩ := HI362.out; have hcz38_0 := cellS27_0 HGz38; have hfz38_0 := blk_frozen HGz38 0; clear HGz38 hgz38))
      go_ret
      exact ⟨er, by repeat (first | (with_reducible first | exact HB.out | apply below_alloc | apply pw_below_drewN | apply below_drew1 | refine below_set ?_ (IsS27.ge HI362.out)) | exact HB.out)⟩
     rw [if_pos c26] at H
     have c26b0 : (t368 == 0) = true := beq_iff_eq.mpr c26
     have c26b1 : (t368 != 0) = false := bne_eq_false_iff_eq.mpr c26
     clear c26
     obtain rfl := Option.some.inj H
     go_wp2_with (first | ((with_reducible refine gate_dst (N := 49) rfl ?_); refine gbox (N := 49) (cs := #[.int .u8 0]) (t := 27) ?_; intro gb362 hg w27 hbox hb; refine ax5 (Kd.R_below (kr HO_5) hb) (below_step bel hb) ((ge hg : w.heap.size ≤ gb362)) ((ge hg : w.heap.size ≤ gb362)) ((show IsS27 w _ gb362 0 from ⟨hbox, (ge hg : w.heap.size ≤ gb362)⟩)) ?_; clear HO_5; clear HB; intro HO_5 HB GW362 GE362 HI362; clear hb hbox hg) | ((with_reducible refine gate_callee (f := 7) rfl ?_); refine goesL_ (some 52) rfl rfl Try.func7 (by kernel_rfl) rfl #[.pointer (some ⟨gb362, 0, none⟩), .slice A0 l0.length c0] rfl ga ?_; (with_reducible refine (vec_Nrm2.calls k1 gb362 0 _ _ l0 t363 t364 w _ ?side1 ?side2 ?side3 ?side4 ?side5 A22.out).mono ?_); (case side1 => repeat (first | (with_reducible first | exact HI362.out | apply IsS27.alloc | apply IsS27.drewN | apply IsS27.drew | apply IsS27.set_0) | exact HI362.out)); (case side2 => repeat (first | (with_reducible first | exact HB.out | apply below_alloc | apply pw_below_drewN | apply below_drew1 | refine below_set ?_ (IsS27.ge HI362.out)) | exact HB.out)); (case side3 => repeat (first | exact (Kd.C_below HR0.out HB.out) | (with_reducible refine Kd.C_alloc ?_ _) | (with_reducible refine Kd.C_drewN ?_ _) | (with_reducible refine Kd.C_drew ?_))); (case side4 => exact HC0.out); (case side5 => exact Kd.far_C 0 HR0.out (IsS27.ge HI362.out)); rintro e w28 ⟨rfl, hi, hb, hk⟩; refine ⟨_, rfl, ?_⟩; refine ax3 (Kd.R_mono (Kd.R_keep (IsS27.apart (show IsS27 w _ gb362 0 from by repeat (first | (with_reducible first | exact HI362.out | apply IsS27.alloc | apply IsS27.drewN | apply IsS27.drew | apply IsS27.set_0) | exact HI362.out)) (kr HO_5) (by decide)) hk (fun _ h => h.2)) (fun _ h => h.1)) hb hi ?_; clear HO_5; clear HB; clear HI362; intro HO_5 HB HI362; (try clear hb); obtain ⟨Ao29, co29, eo29⟩ := Kd.R_slice HO_5.out; subst eo29) | ((with_reducible refine gate_callee (f := 7) rfl ?_); refine goesL_ (some 55) rfl rfl Try.func7 (by kernel_rfl) rfl #[.pointer (some ⟨gb362, 0, none⟩), .slice Ao29 x5_1.length co29] rfl ga ?_; (with_reducible refine (vec_Nrm2.calls k1 gb362 t364 _ _ x5_1 t365 t366 w _ ?side1 ?side2 ?side3 ?side4 ?side5 A23.out).mono ?_); (case side1 => repeat (first | (with_reducible first | exact HI362.out | apply IsS27.alloc | apply IsS27.drewN | apply IsS27.drew | apply IsS27.set_0) | exact HI362.out)); (case side2 => repeat (first | (with_reducible first | exact HB.out | apply below_alloc | apply pw_below_drewN | apply below_drew1 | refine below_set ?_ (IsS27.ge HI362.out)) | exact HB.out)); (case side3 => exact ks HO_5); (case side4 => exact (Kd.R_reads' HO_5.out).2.1); (case side5 => exact far_slice (IsS27.own_ne HI362.out HO_5.out (by decide))); rintro e w30 ⟨rfl, hi, hb, hk⟩; refine ⟨_, rfl, ?_⟩; refine ax3 (Kd.R_mono (Kd.R_keep (IsS27.apart (show IsS27 w _ gb362 t364 from by repeat (first | (with_reducible first | exact HI362.out | apply IsS27.alloc | apply IsS27.drewN | apply IsS27.drew | apply IsS27.set_0) | exact HI362.out)) (kr HO_5) (by decide)) hk (fun _ h => h.2)) (fun _ h => h.1)) hb hi ?_; clear HO_5; clear HB; clear HI362; intro HO_5 HB HI362; (try clear hb)) | ((with_reducible refine gate_callee (f := 10) rfl ?_); refine goesL_ (some 59) rfl rfl Try.func10 (by kernel_rfl) rfl #[.int .u64 t363, .int .i64 (wrap64 ((Go.bits .and .i64 a1 255) - 128))] rfl ga ?_; (with_reducible refine (more_Scale.calls k1 t363 (wrap64 ((Go.bits .and .i64 a1 255) - 128)) t367 t368 _ A24.out).mono ?_); rintro e w31 ⟨rfl, hb⟩; refine ⟨_, rfl, ?_⟩; refine ax3 (Kd.R_below (kr HO_5) hb) (IsS27.below (by repeat (first | (with_reducible first | exact HI362.out | apply IsS27.alloc | apply IsS27.drewN | apply IsS27.drew | apply IsS27.set_0) | exact HI362.out)) hb) (below_step (by repeat (first | (with_reducible first | exact HB.out | apply below_alloc | apply pw_below_drewN | apply below_drew1 | refine below_set ?_ (IsS27.ge HI362.out)) | exact HB.out)) hb) ?_; clear HO_5; clear HI362; clear HB; intro HO_5 HI362 HB; (try clear hb); obtain ⟨HGz32, hgz32⟩ := HI362.out; have hcz32_0 := cellS27_0 HGz32; have hfz32_0 := blk_frozen HGz32 0; clear HGz32 hgz32))
     go_ret
     exact ⟨er, by repeat (first | (with_reducible first | exact HB.out | apply below_alloc | apply pw_below_drewN | apply below_drew1 | refine below_set ?_ (IsS27.ge HI362.out)) | exact HB.out)⟩
/-- THE ONE PURE STATEMENT of gimballaw10_VecPower: yours. -/
def gimballaw10_VecPower.Pure : Prop := ∀ (l0 : List Int) (a1 : Int), l0.length ≤ maxLen → l0.length * 8 ≤ 140737488351232 → (∀ x ∈ l0, (Lit.int .u64 x).wf = true) → (Lit.int .i64 a1).wf = true → ∃ k, gimballaw10_VecPower.f k l0 a1 = some true
theorem gimballaw10_VecPower.walk (P : gimballaw10_VecPower.Pure) (a0 : Option Addr) (len0 cap0 : Nat) (z0 : List Int) (a1 : Int) (w : World) (w0 : (a0 = none ∧ len0 = 0 ∧ cap0 = 0 ∧ z0 = []) ∨ ∃ x, a0 = some x ∧ len0 ≤ cap0 ∧ cap0 ≤ maxLen ∧ z0.length = cap0 ∧ (∀ i, i < z0.length → w.cell? (x.add i) = some (.int .u64 (z0.getD i 0))) ∧ ∀ n ∈ z0, (Lit.int .u64 n).wf = true) (y0 : len0 * 8 ≤ 140737488351232) (w1 : (Lit.int .i64 a1).wf = true) :
  Calls Try.prog 4 #[.slice a0 len0 cap0, .int .i64 a1] w fun e w' => e = .returned (.bool true) ∧ Below w.heap.size w w' := by
 obtain ⟨l0, rfl, hr0, hm0, hw0, hc0⟩ := ReadsInt.ofRowC w0
 obtain ⟨k, h⟩ := P l0 a1 hm0 y0 hw0 w1
 refine (gimballaw10_VecPower.calls k _ _ l0 a1 true w (Kd.C_of_reads (d := (0 : Int)) (h1 := fun _ => rfl) hr0) hc0 rfl h).mono ?_
 rintro e w' ⟨rfl, hd⟩
 exact ⟨rfl, hd⟩

end Go.Proofs.Ytkkfghecmhmdpaa.F
