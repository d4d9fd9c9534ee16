-- Written by a program of this seat's session (mkprint), out of the translation.
import Derived.Test.YtcappkphcjgeoaaShort
import Derived.Test.YtcappkphcjgeoaaFx0
import Derived.Test.YtcappkphcjgeoaaFx6
import Derived.Test.YtcappkphcjgeoaaFx9
namespace Go.Proofs.Ytcappkphcjgeoaa.F
open Go.RowKit Go.Proofs.YtcappkphcjgeoaaW.PrintWords Go.Proofs.YtcappkphcjgeoaaW.PrintLast Go.Proofs.YtcappkphcjgeoaaW.PrintMore
attribute [local go_sem] max2_int min2_int max_two min_two max_three min_three max_four min_four   -- for this text's walks alone
set_option linter.unusedVariables false
set_option linter.unusedSimpArgs false

/-! ### gimbalref02_Mul: function 48 -/
def gimbalref02_Mul.l0 : Nat → List Int → List Int → List Int → Int → Int → Option (List Int)
 | 0, _, _, _, _, _ => none
 | k + 1, x1, x5, x9, x10, x11 => if x11 < x10 then (if 0 ≤ x11 then (if x11 < (x9.length : Int) then (if (rd x9 x11) = 1 then ((gimbalref02_Up.f k x1 x11).bind fun t290 => ((gimbalref02_Add.f k x5 t290).bind fun t293 => (gimbalref02_Mul.l0 k x1 t293 x9 x10 (wrap64 (x11 + 1))))) else (gimbalref02_Mul.l0 k x1 x5 x9 x10 (wrap64 (x11 + 1)))) else (none)) else (none)) else (some x5)
def gimbalref02_Mul.f (k : Nat) (l0 : List Int) (l1 : List Int) : Option (List Int) := gimbalref02_Mul.l0 k l1 (([] : List Int)) l0 (l0.length : Int) 0
theorem gimbalref02_Mul.mono_l : ∀ k, (∀ y0 y1 y2 y3 y4, LeO (gimbalref02_Mul.l0 k y0 y1 y2 y3 y4) (gimbalref02_Mul.l0 (k + 1) y0 y1 y2 y3 y4))
 | 0 => fun _ _ _ _ _ r h => by simp [gimbalref02_Mul.l0] at h
 | k + 1 => by
  have ih0 := gimbalref02_Mul.mono_l k
  ·
   intro y0 y1 y2 y3 y4
   unfold gimbalref02_Mul.l0
   repeat' first
   | (with_reducible exact ih0 _ _ _ _ _)
   | (with_reducible exact gimbalref02_Add.mono _ _ _)
   | (with_reducible exact gimbalref02_Up.mono _ _ _)
   | (with_reducible exact LeO.refl _)
   | (with_reducible exact LeO.none _)
   | (with_reducible refine LeO.ite ?_ ?_)
   | (with_reducible refine LeO.bind ?_ (fun _ => ?_))
   | exact ih0 _ _ _ _ _
   | exact gimbalref02_Add.mono _ _ _
   | exact gimbalref02_Up.mono _ _ _
   | exact LeO.none _
   | refine LeO.ite ?_ ?_
   | refine LeO.bind ?_ (fun _ => ?_)
theorem gimbalref02_Mul.mono : ∀ a0 a1 k, LeO (gimbalref02_Mul.f k a0 a1) (gimbalref02_Mul.f (k + 1) a0 a1) := by
 intro a0 a1 k
 have ih0 := gimbalref02_Mul.mono_l k
 unfold gimbalref02_Mul.f
 repeat' first
   | (with_reducible exact ih0 _ _ _ _ _)
   | (with_reducible exact gimbalref02_Add.mono _ _ _)
   | (with_reducible exact gimbalref02_Up.mono _ _ _)
   | (with_reducible exact LeO.refl _)
   | (with_reducible exact LeO.none _)
   | (with_reducible refine LeO.ite ?_ ?_)
   | (with_reducible refine LeO.bind ?_ (fun _ => ?_))
   | exact ih0 _ _ _ _ _
   | exact gimbalref02_Add.mono _ _ _
   | exact gimbalref02_Up.mono _ _ _
   | exact LeO.none _
   | refine LeO.ite ?_ ?_
   | refine LeO.bind ?_ (fun _ => ?_)
set_option maxHeartbeats 8000000 in
set_option maxRecDepth 100000 in
theorem gimbalref02_Mul.calls (k : Nat) (A0 : Option Addr) (c0 : Nat) (l0 : List Int) (A1 : Option Addr) (c1 : Nat) (l1 : List Int) (r : List Int) (w : World) (hr0 : Kd.C (Kd.int .i64) w A0 l0.length l0) (hc0 : l0.length ≤ c0) (hr1 : Kd.C (Kd.int .i64) w A1 l1.length l1) (hc1 : l1.length ≤ c1) (h : gimbalref02_Mul.f k l0 l1 = some r) :
  Calls Try.prog 48 #[.slice A0 l0.length c0, .slice A1 l1.length c1] w fun e w' => ∃ v0_ : Value, e = .returned (v0_) ∧ Kd.R (Kd.int .i64) 3 w' w.heap.size (fun _ => True) v0_ r ∧ Below w.heap.size w w' := by
 have HR0 := Aside0.mk hr0
 have HC0 := Aside0.mk hc0
 clear hr0 hc0
 have HR1 := Aside0.mk hr1
 have HC1 := Aside0.mk hc1
 clear hr1 hc1
 have HB := Aside0.mk (Below.refl w.heap.size w)
 have H : (gimbalref02_Mul.l0 k l1 (([] : List Int)) l0 (l0.length : Int) 0) = some r := h
 clear h
 obtain ⟨y286, hy286⟩ : ∃ y_ : List Int, y_ = (([] : List Int)) := ⟨_, rfl⟩
 replace H : (gimbalref02_Mul.l0 k l1 y286 l0 (l0.length : Int) 0) = some r := by first | (rw [hy286]; with_reducible exact H) | (have H2_ := (Option.bind_some _ _).symm.trans H; rw [hy286]; with_reducible exact H2_) | (have H2_ := (Option.bind_some _ _).symm.trans H; with_reducible exact H2_) | with_reducible exact H | (rw [hy286]; exact H) | exact H
 have Ny286 := Aside0.mk hy286
 clear hy286
 have H' := Aside0.mk H
 clear H
 go_enter Try.func48, Try.ntmps48
 go_wp2_with (first | ((with_reducible refine gate_dst (N := 8) rfl ?_); refine Kd.R_lit (Kd.int .i64) _ 3 ?hg (N := 8) ?hd (xs := ([] : List Int)) (inner := []) (ok := fun _ => True) (okp := fun _ => True) ?hr ?hp (fun _ hk => hk) trivial (Below.refl _ _) (Nat.le_refl _) (by simp) ?_; (case hd => rfl); (case hg => rfl); (case hr => first | (go_simp; done) | (go_simp; rfl)); (case hp => exact (Reps.none _ _)); intro v287 w3 ho4 hb hg_ hnew_; clear hg_ hnew_; (first | rw [← Ny286.out] at ho4 | (simp only [Int.reduceToNat] at ho4; rw [← Ny286.out] at ho4)); have n0_ := Aside0.mk (Kd.R_lower ho4 (below_size bel)); have n1_ := Aside0.mk (below_step bel hb); clear HB; have HO288 := n0_; have HB := n1_; clear n0_ n1_; clear hb ho4))
 go_loopg [5, 11] k (fun kq v5 v11 w' => ∃ (x5_1 : List Int) (x11_1 : Int), v11 = .int .i64 x11_1 ∧ Aside0 (gimbalref02_Mul.l0 kq l1 x5_1 l0 (l0.length : Int) x11_1 = some r) ∧ Aside0 (kq ≤ k) ∧ Aside0 (Kd.R (Kd.int .i64) 3 w' w.heap.size (fun _ => True) v5 x5_1) ∧ Aside0 (Below w.heap.size w w'))
 case atStart => exact ⟨(y286), (0), (by first | rfl | (simp; done) | (simp [*]; done)), H', ⟨Nat.le_refl _⟩, ⟨by (with_reducible repeat (first | apply Kd.R_alloc | apply Kd.R_drewN | apply Kd.R_drew)); exact HO288.out⟩, ⟨bel⟩⟩
 case round =>
  clear H'
  try clear c1
  try clear p2
  try clear c4
  obtain ⟨x5_1, x11_1, rfl, HA, HK1, HO_5, HB⟩ := hrel
  cases gk with
  | zero => exact absurd HA.out (by simp [gimbalref02_Mul.l0])
  | succ k1 =>
   have H := HA.out
   clear HA
   simp only [gimbalref02_Mul.l0] at H
   by_cases c5 : x11_1 < (l0.length : Int)
   ·
    rw [if_pos c5] at H
    have c5b0 : decide (x11_1 < (l0.length : Int)) = true := decide_eq_true c5
    clear c5
    by_cases c6 : 0 ≤ x11_1
    ·
     rw [if_pos c6] at H
     have c6b0 : decide (0 ≤ x11_1) = true := decide_eq_true c6
     clear c6
     by_cases c7 : x11_1 < (l0.length : Int)
     ·
      rw [if_pos c7] at H
      have c7b0 : decide (x11_1 < (l0.length : Int)) = true := decide_eq_true c7
      clear c7
      by_cases c8 : (rd l0 x11_1) = 1
      ·
       rw [if_pos c8] at H
       have c8b0 : ((rd l0 x11_1) == 1) = true := beq_iff_eq.mpr c8
       have c8b1 : ((rd l0 x11_1) != 1) = false := bne_eq_false_iff_eq.mpr c8
       clear c8
       obtain ⟨t290, A90, H⟩ := Option.bind_eq_some_iff.mp H
       (try dsimp -simprocs only at H)
       have A9 := Aside0.mk A90
       clear A90
       obtain ⟨t293, A100, H⟩ := Option.bind_eq_some_iff.mp H
       (try dsimp -simprocs only at H)
       have A10 := Aside0.mk A100
       clear A100
       have H' := Aside0.mk H
       clear H
       have p289 : 0 ≤ (x11_1 : Int) := of_decide_eq_true (by first | (with_reducible assumption) | assumption)
       have q289 : x11_1 < (l0.length : Int) := of_decide_eq_true (by first | (with_reducible assumption) | assumption)
       obtain ⟨ad289, e289, hx289_0⟩ := Kd.at_int HR0.out x11_1 p289 q289
       cases e289
       replace hx289_0 := (HB.out.cell (World.block_lt_of_cell? w _ hx289_0)).trans hx289_0
       replace p289 := eq_true p289
       replace q289 := eq_true q289
       go_wp2_with (first | ((with_reducible refine gate_callee (f := 19) rfl ?_); refine goesL_ (some 21) rfl rfl Try.func19 (by kernel_rfl) rfl #[.slice A1 l1.length c1, .int .i64 x11_1] rfl ga ?_; (with_reducible refine (gimbalref02_Up.calls k1 _ _ l1 x11_1 t290 _ ?side1 ?side2 A9.out).mono ?_); (case side1 => repeat (first | exact (Kd.C_below HR1.out HB.out) | (with_reducible refine Kd.C_alloc ?_ _) | (with_reducible refine Kd.C_drewN ?_ _) | (with_reducible refine Kd.C_drew ?_))); (case side2 => exact HC1.out); rintro e w11 ⟨v291, rfl, ho0, hb⟩; refine ⟨_, rfl, ?_⟩; have n0_ := Aside0.mk (Kd.R_elder' (kr HO_5) (Kd.R_base ho0) hb); have n1_ := Aside0.mk (Kd.R_lower (Kd.R_new' ho0 (Kd.R_lt (kr HO_5))) (below_size bel)); have n2_ := Aside0.mk (below_step bel hb); clear HO_5; clear HB; have HO_5 := n0_; have HO292 := n1_; have HB := n2_; clear n0_ n1_ n2_; (try clear hb); (try clear ho0); obtain ⟨Ao12, co12, eo12⟩ := Kd.R_slice HO_5.out; subst eo12; obtain ⟨Ao13, co13, eo13⟩ := Kd.R_slice HO292.out; subst eo13) | ((with_reducible refine gate_callee (f := 62) rfl ?_); refine goesL_ (some 22) rfl rfl Try.func62 (by kernel_rfl) rfl #[.slice Ao12 x5_1.length co12, .slice Ao13 t290.length co13] rfl ga ?_; (with_reducible refine (gimbalref02_Add.calls k1 _ _ x5_1 _ _ t290 t293 _ ?side1 ?side2 ?side3 ?side4 A10.out).mono ?_); (case side1 => exact ks HO_5); (case side2 => exact (Kd.R_reads' HO_5.out).2.1); (case side3 => exact ks HO292); (case side4 => exact (Kd.R_reads' HO292.out).2.1); rintro e w14 ⟨v294, rfl, ho0, hb⟩; refine ⟨_, rfl, ?_⟩; have n0_ := Aside0.mk (Kd.R_elder' (kr HO_5) (Kd.R_base ho0) hb); have n1_ := Aside0.mk (Kd.R_elder' (kr HO292) (Kd.R_base ho0) hb); have n2_ := Aside0.mk (Kd.R_lower (Kd.R_new' (Kd.R_new' ho0 (Kd.R_lt (kr HO_5))) (Kd.R_lt (kr HO292))) (below_size bel)); have n3_ := Aside0.mk (below_step bel hb); clear HO_5; clear HO292; clear HB; have HO_5 := n0_; have HO292 := n1_; have HO295 := n2_; have HB := n3_; clear n0_ n1_ n2_ n3_; (try clear hb); (try clear ho0)))
       go_roundg k1
       case measure => have := HK1.out; omega
       case rel => exact ⟨(t293), (wrap64 (x11_1 + 1)), (by first | rfl | (simp; done) | (simp [*]; done)), H', ⟨by have := HK1.out; omega⟩, ⟨by (with_reducible repeat (first | apply Kd.R_alloc | apply Kd.R_drewN | apply Kd.R_drew)); exact Kd.R_mono HO295.out (fun _ hk => trivial)⟩, ⟨bel⟩⟩
      ·
       rw [if_neg c8] at H
       have c8b0 : ((rd l0 x11_1) == 1) = false := beq_eq_false_iff_ne.mpr c8
       have c8b1 : ((rd l0 x11_1) != 1) = true := bne_iff_ne.mpr c8
       have H' := Aside0.mk H
       clear H
       have p289 : 0 ≤ (x11_1 : Int) := of_decide_eq_true (by first | (with_reducible assumption) | assumption)
       have q289 : x11_1 < (l0.length : Int) := of_decide_eq_true (by first | (with_reducible assumption) | assumption)
       obtain ⟨ad289, e289, hx289_0⟩ := Kd.at_int HR0.out x11_1 p289 q289
       cases e289
       replace hx289_0 := (HB.out.cell (World.block_lt_of_cell? w _ hx289_0)).trans hx289_0
       replace p289 := eq_true p289
       replace q289 := eq_true q289
       go_wp2
       go_roundg k1
       case measure => have := HK1.out; omega
       case rel => exact ⟨(x5_1), (wrap64 (x11_1 + 1)), (by first | rfl | (simp; done) | (simp [*]; done)), H', ⟨by have := HK1.out; omega⟩, ⟨by (with_reducible repeat (first | apply Kd.R_alloc | apply Kd.R_drewN | apply Kd.R_drew)); exact HO_5.out⟩, ⟨bel⟩⟩
     ·
      rw [if_neg c7] at H
      exact absurd H (by simp)
    ·
     rw [if_neg c6] at H
     exact absurd H (by simp)
   ·
    rw [if_neg c5] at H
    have c5b0 : decide (x11_1 < (l0.length : Int)) = false := decide_eq_false c5
    clear c5
    obtain rfl := Option.some.inj H
    go_wp2
    go_ret
    exact ⟨_, er, by (with_reducible repeat (first | apply Kd.R_alloc | apply Kd.R_drewN | apply Kd.R_drew)); exact HO_5.out, bel⟩

end Go.Proofs.Ytcappkphcjgeoaa.F
