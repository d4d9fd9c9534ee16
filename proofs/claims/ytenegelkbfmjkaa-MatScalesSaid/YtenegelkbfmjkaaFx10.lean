-- Written by a program of this seat's session (mkprint), out of the translation.
import Derived.Test.YtenegelkbfmjkaaShort
import Derived.Test.YtenegelkbfmjkaaFx0
import Derived.Test.YtenegelkbfmjkaaFx2
import Derived.Test.YtenegelkbfmjkaaFx5
import Derived.Test.YtenegelkbfmjkaaFx6
import Derived.Test.YtenegelkbfmjkaaFx7
namespace Go.Proofs.Ytenegelkbfmjkaa.F
open Go.RowKit Go.Proofs.YtenegelkbfmjkaaW.PrintWords Go.Proofs.YtenegelkbfmjkaaW.PrintLast Go.Proofs.YtenegelkbfmjkaaW.PrintMore
attribute [local go_sem] max2_int min2_int max_two min_two max_three min_three max_four min_four   -- for this text's walks alone
set_option linter.unusedVariables false
set_option linter.unusedSimpArgs false

/-! ### gimballaw09_MatScales: function 3 -/
mutual
def gimballaw09_MatScales.l0 : Nat → Int → Int → Int → Int → Int → Int → Int → List Int → Int → Int → Int → List Int → Option (Bool)
 | 0, _, _, _, _, _, _, _, _, _, _, _, _ => none
 | k + 1, x4, x13, x14, x15, x253000, x253001, x253002, x253003, x261000, x261001, x261002, x261003 => if x15 < x253000 then (gimballaw09_MatScales.l1 k x4 x13 x14 x15 0 x253000 x253001 x253002 x253003 x261000 x261001 x261002 x261003) else (if x13 = x14 then (if x261000 = x253000 then (if x261001 = x253001 then ((mat_Matrix_Check.f k x261000 x261001 x261002 x261003).bind fun t265 => (some (t265 == 0))) else (some false)) else (some false)) else (some false))
def gimballaw09_MatScales.l1 : Nat → Int → Int → Int → Int → Int → Int → Int → Int → List Int → Int → Int → Int → List Int → Option (Bool)
 | 0, _, _, _, _, _, _, _, _, _, _, _, _, _ => none
 | k + 1, x4, x13, x14, x15, x16, x253000, x253001, x253002, x253003, x261000, x261001, x261002, x261003 => if x16 < x253001 then ((mat_Matrix_At.f x253000 x253001 x253002 x253003 x15 x16).bind fun t261 => ((more_Scale.f k t261 x4).bind fun bt262 => ((mat_Matrix_At.f x261000 x261001 x261002 x261003 x15 x16).bind fun t264 => (if t264 = bt262.1 then (gimballaw09_MatScales.l1 k x4 x13 (Go.bits .or .u8 x14 bt262.2) x15 (wrap64 (x16 + 1)) x253000 x253001 x253002 x253003 x261000 x261001 x261002 x261003) else (some false))))) else (gimballaw09_MatScales.l0 k x4 x13 x14 (wrap64 (x15 + 1)) x253000 x253001 x253002 x253003 x261000 x261001 x261002 x261003)
end
def gimballaw09_MatScales.f (k : Nat) (a0 : Int) (a1 : Int) (a2 : Int) (l3 : List Int) (a4 : Int) : Option (Bool) := (gimballaw09_head.f k).bind fun t245 => (if t245 = true then (if (l3.length : Int) > 100 then (some true) else ((gimballaw09_Made.f k a0 a1 a2 l3).bind fun bt246 => ((mat_Matrix_Scale.f k bt246.1 bt246.2.1 bt246.2.2.1 bt246.2.2.2 a4).bind fun bt253 => (gimballaw09_MatScales.l0 k a4 bt253.2.2.2.2 0 0 bt246.1 bt246.2.1 bt246.2.2.1 bt246.2.2.2 bt253.1 bt253.2.1 bt253.2.2.1 bt253.2.2.2.1)))) else (some false))
theorem gimballaw09_MatScales.mono_l : ∀ k, (∀ y0 y1 y2 y3 y4 y5 y6 y7 y8 y9 y10 y11, LeO (gimballaw09_MatScales.l0 k y0 y1 y2 y3 y4 y5 y6 y7 y8 y9 y10 y11) (gimballaw09_MatScales.l0 (k + 1) y0 y1 y2 y3 y4 y5 y6 y7 y8 y9 y10 y11)) ∧ (∀ y0 y1 y2 y3 y4 y5 y6 y7 y8 y9 y10 y11 y12, LeO (gimballaw09_MatScales.l1 k y0 y1 y2 y3 y4 y5 y6 y7 y8 y9 y10 y11 y12) (gimballaw09_MatScales.l1 (k + 1) y0 y1 y2 y3 y4 y5 y6 y7 y8 y9 y10 y11 y12))
 | 0 => ⟨fun _ _ _ _ _ _ _ _ _ _ _ _ r h => by simp [gimballaw09_MatScales.l0] at h, fun _ _ _ _ _ _ _ _ _ _ _ _ _ r h => by simp [gimballaw09_MatScales.l1] at h⟩
 | k + 1 => by
  obtain ⟨ih0, ih1⟩ := gimballaw09_MatScales.mono_l k
  refine ⟨?_, ?_⟩
  ·
   intro y0 y1 y2 y3 y4 y5 y6 y7 y8 y9 y10 y11
   unfold gimballaw09_MatScales.l0
   repeat' first
   | (with_reducible exact ih0 _ _ _ _ _ _ _ _ _ _ _ _)
   | (with_reducible exact ih1 _ _ _ _ _ _ _ _ _ _ _ _ _)
   | (with_reducible exact gimballaw09_Made.mono _ _ _ _ _)
   | (with_reducible exact gimballaw09_head.mono _)
   | (with_reducible exact mat_Matrix_Check.mono _ _ _ _ _)
   | (with_reducible exact mat_Matrix_Scale.mono _ _ _ _ _ _)
   | (with_reducible exact more_Scale.mono _ _ _)
   | (with_reducible exact LeO.refl _)
   | (with_reducible exact LeO.none _)
   | (with_reducible refine LeO.ite ?_ ?_)
   | (with_reducible refine LeO.bind ?_ (fun _ => ?_))
   | exact ih0 _ _ _ _ _ _ _ _ _ _ _ _
   | exact ih1 _ _ _ _ _ _ _ _ _ _ _ _ _
   | exact gimballaw09_Made.mono _ _ _ _ _
   | exact gimballaw09_head.mono _
   | exact mat_Matrix_Check.mono _ _ _ _ _
   | exact mat_Matrix_Scale.mono _ _ _ _ _ _
   | exact more_Scale.mono _ _ _
   | exact LeO.none _
   | refine LeO.ite ?_ ?_
   | refine LeO.bind ?_ (fun _ => ?_)
  ·
   intro y0 y1 y2 y3 y4 y5 y6 y7 y8 y9 y10 y11 y12
   unfold gimballaw09_MatScales.l1
   repeat' first
   | (with_reducible exact ih0 _ _ _ _ _ _ _ _ _ _ _ _)
   | (with_reducible exact ih1 _ _ _ _ _ _ _ _ _ _ _ _ _)
   | (with_reducible exact gimballaw09_Made.mono _ _ _ _ _)
   | (with_reducible exact gimballaw09_head.mono _)
   | (with_reducible exact mat_Matrix_Check.mono _ _ _ _ _)
   | (with_reducible exact mat_Matrix_Scale.mono _ _ _ _ _ _)
   | (with_reducible exact more_Scale.mono _ _ _)
   | (with_reducible exact LeO.refl _)
   | (with_reducible exact LeO.none _)
   | (with_reducible refine LeO.ite ?_ ?_)
   | (with_reducible refine LeO.bind ?_ (fun _ => ?_))
   | exact ih0 _ _ _ _ _ _ _ _ _ _ _ _
   | exact ih1 _ _ _ _ _ _ _ _ _ _ _ _ _
   | exact gimballaw09_Made.mono _ _ _ _ _
   | exact gimballaw09_head.mono _
   | exact mat_Matrix_Check.mono _ _ _ _ _
   | exact mat_Matrix_Scale.mono _ _ _ _ _ _
   | exact more_Scale.mono _ _ _
   | exact LeO.none _
   | refine LeO.ite ?_ ?_
   | refine LeO.bind ?_ (fun _ => ?_)
theorem gimballaw09_MatScales.mono : ∀ a0 a1 a2 a3 a4 k, LeO (gimballaw09_MatScales.f k a0 a1 a2 a3 a4) (gimballaw09_MatScales.f (k + 1) a0 a1 a2 a3 a4) := by
 intro a0 a1 a2 a3 a4 k
 obtain ⟨ih0, ih1⟩ := gimballaw09_MatScales.mono_l k
 unfold gimballaw09_MatScales.f
 repeat' first
   | (with_reducible exact ih0 _ _ _ _ _ _ _ _ _ _ _ _)
   | (with_reducible exact ih1 _ _ _ _ _ _ _ _ _ _ _ _ _)
   | (with_reducible exact gimballaw09_Made.mono _ _ _ _ _)
   | (with_reducible exact gimballaw09_head.mono _)
   | (with_reducible exact mat_Matrix_Check.mono _ _ _ _ _)
   | (with_reducible exact mat_Matrix_Scale.mono _ _ _ _ _ _)
   | (with_reducible exact more_Scale.mono _ _ _)
   | (with_reducible exact LeO.refl _)
   | (with_reducible exact LeO.none _)
   | (with_reducible refine LeO.ite ?_ ?_)
   | (with_reducible refine LeO.bind ?_ (fun _ => ?_))
   | exact ih0 _ _ _ _ _ _ _ _ _ _ _ _
   | exact ih1 _ _ _ _ _ _ _ _ _ _ _ _ _
   | exact gimballaw09_Made.mono _ _ _ _ _
   | exact gimballaw09_head.mono _
   | exact mat_Matrix_Check.mono _ _ _ _ _
   | exact mat_Matrix_Scale.mono _ _ _ _ _ _
   | exact more_Scale.mono _ _ _
   | exact LeO.none _
   | refine LeO.ite ?_ ?_
   | refine LeO.bind ?_ (fun _ => ?_)
set_option maxHeartbeats 8000000 in
set_option maxRecDepth 100000 in
theorem gimballaw09_MatScales.calls (k : Nat) (a0 : Int) (a1 : Int) (a2 : Int) (A3 : Option Addr) (c3 : Nat) (l3 : List Int) (a4 : Int) (r : Bool) (w : World) (hr3 : Kd.C (Kd.int .u64) w A3 l3.length l3) (hc3 : l3.length ≤ c3) (h : gimballaw09_MatScales.f k a0 a1 a2 l3 a4 = some r) :
  Calls Try.prog 3 #[.int .i64 a0, .int .i64 a1, .int .i64 a2, .slice A3 l3.length c3, .int .i64 a4] w fun e w' => e = .returned (.bool r) ∧ Below w.heap.size w w' := by
 have hu25 := Try.underlying25
 have HR3 := Aside0.mk hr3
 have HC3 := Aside0.mk hc3
 clear hr3 hc3
 have HB := Aside0.mk (Below.refl w.heap.size w)
 have H : ((gimballaw09_head.f k).bind fun t245 => (if t245 = true then (if (l3.length : Int) > 100 then (some true) else ((gimballaw09_Made.f k a0 a1 a2 l3).bind fun bt246 => ((mat_Matrix_Scale.f k bt246.1 bt246.2.1 bt246.2.2.1 bt246.2.2.2 a4).bind fun bt253 => (gimballaw09_MatScales.l0 k a4 bt253.2.2.2.2 0 0 bt246.1 bt246.2.1 bt246.2.2.1 bt246.2.2.2 bt253.1 bt253.2.1 bt253.2.2.1 bt253.2.2.2.1)))) else (some false))) = some r := h
 clear h
 obtain ⟨t245, A60, H⟩ := Option.bind_eq_some_iff.mp H
 (try dsimp -simprocs only at H)
 have A6 := Aside0.mk A60
 clear A60
 by_cases c7 : t245 = true
 ·
  subst c7
  rw [if_pos rfl] at H
  by_cases c8 : (l3.length : Int) > 100
  ·
   rw [if_pos c8] at H
   have c8b0 : decide (100 < (l3.length : Int)) = true := decide_eq_true c8
   have c8b1 : decide (100 < l3.length) = true := decide_eq_true (by omega)
   clear c8
   obtain rfl := Option.some.inj H
   go_enter Try.func3, Try.ntmps3
   go_wp2_with (first | ((with_reducible refine gate_callee (f := 7) rfl ?_); refine goesL_ (some 19) rfl rfl Try.func7 (by kernel_rfl) rfl #[] rfl ga ?_; (with_reducible refine (gimballaw09_head.calls k  true _ A6.out).mono ?_); rintro e w9 ⟨rfl, hb⟩; refine ⟨_, rfl, ?_⟩; have n0_ := Aside0.mk (below_step bel hb); clear HB; have HB := n0_; clear n0_; (try clear hb)))
   go_ret
   exact ⟨er, bel⟩
  ·
   rw [if_neg c8] at H
   have c8b0 : decide (100 < (l3.length : Int)) = false := decide_eq_false c8
   have c8b1 : decide (100 < l3.length) = false := decide_eq_false (by omega)
   clear c8
   obtain ⟨⟨t246, t247, t248, t249⟩, A100, H⟩ := Option.bind_eq_some_iff.mp H
   (try dsimp -simprocs only at H)
   have A10 := Aside0.mk A100
   clear A100
   obtain ⟨⟨t253, t254, t255, t256, t259⟩, A110, H⟩ := Option.bind_eq_some_iff.mp H
   (try dsimp -simprocs only at H)
   have A11 := Aside0.mk A110
   clear A110
   have H' := Aside0.mk H
   clear H
   go_enter Try.func3, Try.ntmps3
   go_wp2_with (first | ((with_reducible refine gate_callee (f := 7) rfl ?_); refine goesL_ (some 19) rfl rfl Try.func7 (by kernel_rfl) rfl #[] rfl ga ?_; (with_reducible refine (gimballaw09_head.calls k  true _ A6.out).mono ?_); rintro e w12 ⟨rfl, hb⟩; refine ⟨_, rfl, ?_⟩; have n0_ := Aside0.mk (below_step bel hb); clear HB; have HB := n0_; clear n0_; (try clear hb)) | ((with_reducible refine gate_callee (f := 8) rfl ?_); refine goesL_ (some 28) rfl rfl Try.func8 (by kernel_rfl) rfl #[.int .i64 a0, .int .i64 a1, .int .i64 a2, .slice A3 l3.length c3] rfl ga ?_; (with_reducible refine (gimballaw09_Made.calls k a0 a1 a2 _ _ l3 t246 t247 t248 t249 _ ?side1 ?side2 A10.out).mono ?_); (case side1 => repeat (first | exact (Kd.C_below HR3.out HB.out) | (with_reducible refine Kd.C_alloc ?_ _) | (with_reducible refine Kd.C_drewN ?_ _) | (with_reducible refine Kd.C_drew ?_))); (case side2 => exact HC3.out); rintro e w13 ⟨v250, rfl, ho0, hb⟩; refine ⟨_, rfl, ?_⟩; have n0_ := Aside0.mk (Kd.R_lower ho0 (below_size bel)); have n1_ := Aside0.mk (below_step bel hb); clear HB; have HO251 := n0_; have HB := n1_; clear n0_ n1_; (try clear hb); (try clear ho0)) | ((with_reducible refine gate_dst (N := 11) rfl ?_); refine box_event ?hg (N := 11) ?hd (cs := #[.int .i64 0, .int .i64 0, .int .i64 0, .slice none 0 0]) (t := 25) ?hr ?_; (case hd => rfl); (case hg => rfl); (case hr => first | (go_simp; done) | (go_simp; rfl)); intro gb252 hg w14 hbox hb; have n0_ := Aside0.mk (Kd.R_below (kr HO251) hb); have n1_ := Aside0.mk (below_step bel hb); have n2_ := Aside0.mk (hbox); have n3_ := Aside0.mk ((by rw [hg]; exact (below_size bel) : w.heap.size ≤ gb252)); have n4_ := Aside0.mk ((by rw [hg]; exact (below_size bel) : w.heap.size ≤ gb252)); clear HO251; clear HB; have HO251 := n0_; have HB := n1_; have BK252 := n2_; have GW252 := n3_; have GE252 := n4_; clear n0_ n1_ n2_ n3_ n4_; clear hb hbox hg; have hcz15_0 : w14.cell? ⟨gb252, 0, none⟩ = some (.int .i64 0) := (blk_cell BK252.out 0).trans rfl; have hcz15_1 : w14.cell? ⟨gb252, 1, none⟩ = some (.int .i64 0) := (blk_cell BK252.out 1).trans rfl; have hcz15_2 : w14.cell? ⟨gb252, 2, none⟩ = some (.int .i64 0) := (blk_cell BK252.out 2).trans rfl; have hcz15_3 : w14.cell? ⟨gb252, 3, none⟩ = some (.slice none 0 0) := (blk_cell BK252.out 3).trans rfl; have hfz15_0 := blk_frozen BK252.out 0; have hfz15_1 := blk_frozen BK252.out 1; have hfz15_2 := blk_frozen BK252.out 2; have hfz15_3 := blk_frozen BK252.out 3; obtain ⟨Ao16, co16, eo16⟩ := Kd.R_slice HO251.out; subst eo16) | ((with_reducible refine gate_callee (f := 9) rfl ?_); refine goesL_ (some 32) rfl rfl Try.func9 (by kernel_rfl) rfl #[.agg #[.int .i64 t246, .int .i64 t247, .int .i64 t248, .slice Ao16 t249.length co16], .int .i64 a4] rfl ga ?_; (with_reducible refine (mat_Matrix_Scale.calls k t246 t247 t248 _ _ t249 a4 t253 t254 t255 t256 t259 _ ?side1 ?side2 A11.out).mono ?_); (case side1 => refine (Kd.R_reads' (e := 30) (base := w.heap.size) (ok := fun k_ => True) (n := t249.length) (c := co16) ?_).2.2; exact (by (with_reducible repeat (first | apply Kd.R_alloc | apply Kd.R_drewN | apply Kd.R_drew)); exact (Kd.R_mono (Kd.R_far (p := ⟨gb252, 3, none⟩) (Kd.R_far (p := ⟨gb252, 2, none⟩) (Kd.R_far (p := ⟨gb252, 1, none⟩) (Kd.R_far (p := ⟨gb252, 0, none⟩) (Kd.R_types HO251.out BK252.out (by decide)) (fun _ hk => hk.2) (.int .i64 t246)) (fun _ hk => hk.2) (.int .i64 t247)) (fun _ hk => hk.2) (.int .i64 t248)) (fun _ hk => hk.2) (.slice Ao16 t249.length co16)) (fun _ h_ => h_.1)))); (case side2 => exact (Kd.R_reads' HO251.out).2.1); rintro e w17 ⟨v257, rfl, ho0, hb⟩; refine ⟨_, rfl, ?_⟩; have n0_ := Aside0.mk (Kd.R_elder' (by (with_reducible repeat (first | apply Kd.R_alloc | apply Kd.R_drewN | apply Kd.R_drew)); exact (Kd.R_mono (Kd.R_far (p := ⟨gb252, 3, none⟩) (Kd.R_far (p := ⟨gb252, 2, none⟩) (Kd.R_far (p := ⟨gb252, 1, none⟩) (Kd.R_far (p := ⟨gb252, 0, none⟩) (Kd.R_types HO251.out BK252.out (by decide)) (fun _ hk => hk.2) (.int .i64 t246)) (fun _ hk => hk.2) (.int .i64 t247)) (fun _ hk => hk.2) (.int .i64 t248)) (fun _ hk => hk.2) (.slice Ao16 t249.length co16)) (fun _ h_ => h_.1))) (Kd.R_base ho0) hb); have n1_ := Aside0.mk (Kd.R_lower (Kd.R_new' ho0 (Kd.R_lt (by (with_reducible repeat (first | apply Kd.R_alloc | apply Kd.R_drewN | apply Kd.R_drew)); exact (Kd.R_mono (Kd.R_far (p := ⟨gb252, 3, none⟩) (Kd.R_far (p := ⟨gb252, 2, none⟩) (Kd.R_far (p := ⟨gb252, 1, none⟩) (Kd.R_far (p := ⟨gb252, 0, none⟩) (Kd.R_types HO251.out BK252.out (by decide)) (fun _ hk => hk.2) (.int .i64 t246)) (fun _ hk => hk.2) (.int .i64 t247)) (fun _ hk => hk.2) (.int .i64 t248)) (fun _ hk => hk.2) (.slice Ao16 t249.length co16)) (fun _ h_ => h_.1))))) (below_size bes)); have n2_ := Aside0.mk (blk_below (g := gb252) (o := .cells #[.int .i64 t246, .int .i64 t247, .int .i64 t248, .slice Ao16 t249.length co16] 25 (0, 0)) (by (with_reducible repeat (first | refine blk_drewN ?_ _ | refine blk_drew ?_ | refine blk_alloc ?_ _)); refine blk_put (cs := #[.int .i64 t246, .int .i64 t247, .int .i64 t248, .slice none 0 0]) ?_ 3 _ rfl; (with_reducible repeat (first | refine blk_drewN ?_ _ | refine blk_drew ?_ | refine blk_alloc ?_ _)); refine blk_put (cs := #[.int .i64 t246, .int .i64 t247, .int .i64 0, .slice none 0 0]) ?_ 2 _ rfl; (with_reducible repeat (first | refine blk_drewN ?_ _ | refine blk_drew ?_ | refine blk_alloc ?_ _)); refine blk_put (cs := #[.int .i64 t246, .int .i64 0, .int .i64 0, .slice none 0 0]) ?_ 1 _ rfl; (with_reducible repeat (first | refine blk_drewN ?_ _ | refine blk_drew ?_ | refine blk_alloc ?_ _)); refine blk_put (cs := #[.int .i64 0, .int .i64 0, .int .i64 0, .slice none 0 0]) ?_ 0 _ rfl; (with_reducible repeat (first | refine blk_drewN ?_ _ | refine blk_drew ?_ | refine blk_alloc ?_ _)); exact BK252.out) hb); have n3_ := Aside0.mk (below_step bes hb); clear HO251; clear BK252; clear HB; have HO251 := n0_; have HO258 := n1_; have BK252 := n2_; have HB := n3_; clear n0_ n1_ n2_ n3_; (try clear hb); (try clear ho0)) | ((with_reducible refine gate_dst (N := 12) rfl ?_); refine box_event ?hg (N := 12) ?hd (cs := #[.int .i64 0, .int .i64 0, .int .i64 0, .slice none 0 0]) (t := 25) ?hr ?_; (case hd => rfl); (case hg => rfl); (case hr => first | (go_simp; done) | (go_simp; rfl)); intro gb260 hg w18 hbox hb; have n0_ := Aside0.mk (Kd.R_below (kr HO251) hb); have n1_ := Aside0.mk (Kd.R_below (kr HO258) hb); have n2_ := Aside0.mk (blk_below (g := gb252) (o := .cells #[.int .i64 t246, .int .i64 t247, .int .i64 t248, .slice Ao16 t249.length co16] 25 (0, 0)) (kb BK252) hb); have n3_ := Aside0.mk (below_step bes hb); have n4_ := Aside0.mk (hbox); have n5_ := Aside0.mk ((by rw [hg]; exact (below_size bes) : w.heap.size ≤ gb260)); have n6_ := Aside0.mk ((by rw [hg]; exact (below_size bes) : w.heap.size ≤ gb260)); have n7_ := Aside0.mk ((by rw [hg]; exact Nat.ne_of_lt (blk_lt (g := gb252) (o := .cells #[.int .i64 t246, .int .i64 t247, .int .i64 t248, .slice Ao16 t249.length co16] 25 (0, 0)) (kb BK252)) : gb252 ≠ gb260)); have n8_ := Aside0.mk ((by rw [hg]; exact Nat.ne_of_gt (blk_lt (g := gb252) (o := .cells #[.int .i64 t246, .int .i64 t247, .int .i64 t248, .slice Ao16 t249.length co16] 25 (0, 0)) (kb BK252)) : gb260 ≠ gb252)); clear HO251; clear HO258; clear BK252; clear HB; have HO251 := n0_; have HO258 := n1_; have BK252 := n2_; have HB := n3_; have BK260 := n4_; have GW260 := n5_; have GE260 := n6_; have NB252_260 := n7_; have NB260_252 := n8_; clear n0_ n1_ n2_ n3_ n4_ n5_ n6_ n7_ n8_; clear hb hbox hg; have hnb19 := NB260_252.out; have hnc19 := NB252_260.out; have hcz20_0 : w18.cell? ⟨gb260, 0, none⟩ = some (.int .i64 0) := (blk_cell BK260.out 0).trans rfl; have hcz20_1 : w18.cell? ⟨gb260, 1, none⟩ = some (.int .i64 0) := (blk_cell BK260.out 1).trans rfl; have hcz20_2 : w18.cell? ⟨gb260, 2, none⟩ = some (.int .i64 0) := (blk_cell BK260.out 2).trans rfl; have hcz20_3 : w18.cell? ⟨gb260, 3, none⟩ = some (.slice none 0 0) := (blk_cell BK260.out 3).trans rfl; have hfz20_0 := blk_frozen BK260.out 0; have hfz20_1 := blk_frozen BK260.out 1; have hfz20_2 := blk_frozen BK260.out 2; have hfz20_3 := blk_frozen BK260.out 3; obtain ⟨Ao21, co21, eo21⟩ := Kd.R_slice HO258.out; subst eo21))
   go_loopg [14, 15] k (fun kq v14 v15 w' => ∃ (x14_1 : Int) (x15_1 : Int), v14 = .int .u8 x14_1 ∧ v15 = .int .i64 x15_1 ∧ Aside0 (gimballaw09_MatScales.l0 kq a4 t259 x14_1 x15_1 t246 t247 t248 t249 t253 t254 t255 t256 = some r) ∧ Aside0 (kq ≤ k) ∧ Aside0 (Kd.R (Kd.int .u64) 30 w' w.heap.size (fun k_ => some k_ ≠ ((.slice Ao21 t256.length co21) : Value).ownBlock) (.slice Ao16 t249.length co16) t249) ∧ Aside0 (Kd.R (Kd.int .u64) 30 w' w.heap.size (fun k_ => some k_ ≠ ((.slice Ao16 t249.length co16) : Value).ownBlock) (.slice Ao21 t256.length co21) t256) ∧ Aside0 (w'.heap[gb252]? = some (.cells #[.int .i64 t246, .int .i64 t247, .int .i64 t248, (.slice Ao16 t249.length co16)] 25 (0, 0))) ∧ Aside0 (w'.heap[gb260]? = some (.cells #[.int .i64 t253, .int .i64 t254, .int .i64 t255, (.slice Ao21 t256.length co21)] 25 (0, 0))) ∧ Aside0 (Below w.heap.size w w'))
   case atStart => exact ⟨(0), (0), (by first | rfl | (simp; done) | (simp [*]; done)), (by first | rfl | (simp; done) | (simp [*]; done)), H', ⟨Nat.le_refl _⟩, ⟨by (with_reducible repeat (first | apply Kd.R_alloc | apply Kd.R_drewN | apply Kd.R_drew)); exact Kd.R_mono (Kd.R_far (p := ⟨gb260, 3, none⟩) (Kd.R_far (p := ⟨gb260, 2, none⟩) (Kd.R_far (p := ⟨gb260, 1, none⟩) (Kd.R_far (p := ⟨gb260, 0, none⟩) (Kd.R_types HO251.out BK260.out (by decide)) (fun _ hk => hk.2) (.int .i64 t253)) (fun _ hk => hk.2) (.int .i64 t254)) (fun _ hk => hk.2) (.int .i64 t255)) (fun _ hk => hk.2) (.slice Ao21 t256.length co21)) (fun _ hk => hk.1.2)⟩, ⟨by (with_reducible repeat (first | apply Kd.R_alloc | apply Kd.R_drewN | apply Kd.R_drew)); exact Kd.R_mono (Kd.R_far (p := ⟨gb260, 3, none⟩) (Kd.R_far (p := ⟨gb260, 2, none⟩) (Kd.R_far (p := ⟨gb260, 1, none⟩) (Kd.R_far (p := ⟨gb260, 0, none⟩) (Kd.R_types HO258.out BK260.out (by decide)) (fun _ hk => hk.2) (.int .i64 t253)) (fun _ hk => hk.2) (.int .i64 t254)) (fun _ hk => hk.2) (.int .i64 t255)) (fun _ hk => hk.2) (.slice Ao21 t256.length co21)) (fun _ hk => hk.1.2)⟩, ⟨by (with_reducible repeat (first | refine blk_drewN ?_ _ | refine blk_drew ?_ | refine blk_alloc ?_ _)); refine blk_far ?_ NB252_260.out _; (with_reducible repeat (first | refine blk_drewN ?_ _ | refine blk_drew ?_ | refine blk_alloc ?_ _)); refine blk_far ?_ NB252_260.out _; (with_reducible repeat (first | refine blk_drewN ?_ _ | refine blk_drew ?_ | refine blk_alloc ?_ _)); refine blk_far ?_ NB252_260.out _; (with_reducible repeat (first | refine blk_drewN ?_ _ | refine blk_drew ?_ | refine blk_alloc ?_ _)); refine blk_far ?_ NB252_260.out _; (with_reducible repeat (first | refine blk_drewN ?_ _ | refine blk_drew ?_ | refine blk_alloc ?_ _)); exact BK252.out⟩, ⟨by (with_reducible repeat (first | refine blk_drewN ?_ _ | refine blk_drew ?_ | refine blk_alloc ?_ _)); refine blk_put (cs := #[.int .i64 t253, .int .i64 t254, .int .i64 t255, .slice none 0 0]) ?_ 3 _ rfl; (with_reducible repeat (first | refine blk_drewN ?_ _ | refine blk_drew ?_ | refine blk_alloc ?_ _)); refine blk_put (cs := #[.int .i64 t253, .int .i64 t254, .int .i64 0, .slice none 0 0]) ?_ 2 _ rfl; (with_reducible repeat (first | refine blk_drewN ?_ _ | refine blk_drew ?_ | refine blk_alloc ?_ _)); refine blk_put (cs := #[.int .i64 t253, .int .i64 0, .int .i64 0, .slice none 0 0]) ?_ 1 _ rfl; (with_reducible repeat (first | refine blk_drewN ?_ _ | refine blk_drew ?_ | refine blk_alloc ?_ _)); refine blk_put (cs := #[.int .i64 0, .int .i64 0, .int .i64 0, .slice none 0 0]) ?_ 0 _ rfl; (with_reducible repeat (first | refine blk_drewN ?_ _ | refine blk_drew ?_ | refine blk_alloc ?_ _)); exact BK260.out⟩, ⟨bes⟩⟩
   case round =>
    clear H'
    try clear c1
    try clear p2
    try clear c3
    try clear c7
    try clear c8
    try clear c8b0
    try clear c8b1
    try clear c9
    try clear c19
    try clear hcz15_0
    try clear hcz15_1
    try clear hcz15_2
    try clear hcz15_3
    try clear hcz20_0
    try clear hcz20_1
    try clear hcz20_2
    try clear hcz20_3
    try clear hfz15_0
    try clear hfz15_1
    try clear hfz15_2
    try clear hfz15_3
    try clear hfz20_0
    try clear hfz20_1
    try clear hfz20_2
    try clear hfz20_3
    obtain ⟨x14_1, x15_1, rfl, rfl, HA, HK1, HO_253003, HO_261003, BK252, BK260, HB⟩ := hrel
    cases gk with
    | zero => exact absurd HA.out (by simp [gimballaw09_MatScales.l0])
    | succ k1 =>
     have H := HA.out
     clear HA
     simp only [gimballaw09_MatScales.l0] at H
     by_cases c22 : x15_1 < t246
     ·
      rw [if_pos c22] at H
      have c22b0 : decide (x15_1 < t246) = true := decide_eq_true c22
      clear c22
      have H' := Aside0.mk H
      clear H
      have hnb23 := NB252_260.out
      have hnc23 := NB260_252.out
      have hcz24_0 : wr.cell? ⟨gb252, 0, none⟩ = some (.int .i64 t246) := (blk_cell BK252.out 0).trans rfl
      have hcz24_1 : wr.cell? ⟨gb252, 1, none⟩ = some (.int .i64 t247) := (blk_cell BK252.out 1).trans rfl
      have hcz24_2 : wr.cell? ⟨gb252, 2, none⟩ = some (.int .i64 t248) := (blk_cell BK252.out 2).trans rfl
      have hcz24_3 : wr.cell? ⟨gb252, 3, none⟩ = some (.slice Ao16 t249.length co16) := (blk_cell BK252.out 3).trans rfl
      have hfz24_0 := blk_frozen BK252.out 0
      have hfz24_1 := blk_frozen BK252.out 1
      have hfz24_2 := blk_frozen BK252.out 2
      have hfz24_3 := blk_frozen BK252.out 3
      go_wp2
      go_loopg [14, 16] k1 (fun kq v14 v16 w' => ∃ (x14_2 : Int) (x16_2 : Int), v14 = .int .u8 x14_2 ∧ v16 = .int .i64 x16_2 ∧ Aside0 (gimballaw09_MatScales.l1 kq a4 t259 x14_2 x15_1 x16_2 t246 t247 t248 t249 t253 t254 t255 t256 = some r) ∧ Aside0 (kq ≤ k1) ∧ Aside0 (Kd.R (Kd.int .u64) 30 w' w.heap.size (fun k_ => some k_ ≠ ((.slice Ao21 t256.length co21) : Value).ownBlock) (.slice Ao16 t249.length co16) t249) ∧ Aside0 (Kd.R (Kd.int .u64) 30 w' w.heap.size (fun k_ => some k_ ≠ ((.slice Ao16 t249.length co16) : Value).ownBlock) (.slice Ao21 t256.length co21) t256) ∧ Aside0 (w'.heap[gb252]? = some (.cells #[.int .i64 t246, .int .i64 t247, .int .i64 t248, (.slice Ao16 t249.length co16)] 25 (0, 0))) ∧ Aside0 (w'.heap[gb260]? = some (.cells #[.int .i64 t253, .int .i64 t254, .int .i64 t255, (.slice Ao21 t256.length co21)] 25 (0, 0))) ∧ Aside0 (Below w.heap.size w w'))
      case atStart => exact ⟨(x14_1), (0), (by first | rfl | (simp; done) | (simp [*]; done)), (by first | rfl | (simp; done) | (simp [*]; done)), H', ⟨Nat.le_refl _⟩, ⟨by (with_reducible repeat (first | apply Kd.R_alloc | apply Kd.R_drewN | apply Kd.R_drew)); exact HO_253003.out⟩, ⟨by (with_reducible repeat (first | apply Kd.R_alloc | apply Kd.R_drewN | apply Kd.R_drew)); exact HO_261003.out⟩, ⟨kb BK252⟩, ⟨kb BK260⟩, ⟨bes⟩⟩
      case round =>
       clear H'
       try clear c1
       try clear c2
       try clear p2
       try clear c3
       try clear c7
       try clear c8
       try clear c8b0
       try clear c8b1
       try clear c9
       try clear c19
       try clear c22
       try clear c22b0
       try clear c23
       try clear hcz15_0
       try clear hcz15_1
       try clear hcz15_2
       try clear hcz15_3
       try clear hcz20_0
       try clear hcz20_1
       try clear hcz20_2
       try clear hcz20_3
       try clear hcz24_0
       try clear hcz24_1
       try clear hcz24_2
       try clear hcz24_3
       try clear hfz15_0
       try clear hfz15_1
       try clear hfz15_2
       try clear hfz15_3
       try clear hfz20_0
       try clear hfz20_1
       try clear hfz20_2
       try clear hfz20_3
       try clear hfz24_0
       try clear hfz24_1
       try clear hfz24_2
       try clear hfz24_3
       try clear p2
       obtain ⟨x14_2, x16_2, rfl, rfl, HA, HK2, HO_253003, HO_261003, BK252, BK260, HB⟩ := hrel
       cases gk with
       | zero => exact absurd HA.out (by simp [gimballaw09_MatScales.l1])
       | succ k2 =>
        have H := HA.out
        clear HA
        simp only [gimballaw09_MatScales.l1] at H
        by_cases c25 : x16_2 < t247
        ·
         rw [if_pos c25] at H
         have c25b0 : decide (x16_2 < t247) = true := decide_eq_true c25
         clear c25
         obtain ⟨t261, A260, H⟩ := Option.bind_eq_some_iff.mp H
         (try dsimp -simprocs only at H)
         have A26 := Aside0.mk A260
         clear A260
         obtain ⟨⟨t262, t263⟩, A270, H⟩ := Option.bind_eq_some_iff.mp H
         (try dsimp -simprocs only at H)
         have A27 := Aside0.mk A270
         clear A270
         obtain ⟨t264, A280, H⟩ := Option.bind_eq_some_iff.mp H
         (try dsimp -simprocs only at H)
         have A28 := Aside0.mk A280
         clear A280
         by_cases c29 : t264 = t262
         ·
          rw [if_pos c29] at H
          have c29b0 : (t264 == t262) = true := beq_iff_eq.mpr c29
          have c29b1 : (t264 != t262) = false := bne_eq_false_iff_eq.mpr c29
          clear c29
          have H' := Aside0.mk H
          clear H
          have hnb30 := NB252_260.out
          have hnc30 := NB260_252.out
          have hcz31_0 : wr.cell? ⟨gb252, 0, none⟩ = some (.int .i64 t246) := (blk_cell BK252.out 0).trans rfl
          have hcz31_1 : wr.cell? ⟨gb252, 1, none⟩ = some (.int .i64 t247) := (blk_cell BK252.out 1).trans rfl
          have hcz31_2 : wr.cell? ⟨gb252, 2, none⟩ = some (.int .i64 t248) := (blk_cell BK252.out 2).trans rfl
          have hcz31_3 : wr.cell? ⟨gb252, 3, none⟩ = some (.slice Ao16 t249.length co16) := (blk_cell BK252.out 3).trans rfl
          have hfz31_0 := blk_frozen BK252.out 0
          have hfz31_1 := blk_frozen BK252.out 1
          have hfz31_2 := blk_frozen BK252.out 2
          have hfz31_3 := blk_frozen BK252.out 3
          go_wp2_with (first | ((with_reducible refine gate_callee (f := 11) rfl ?_); refine goesL_ (some 51) rfl rfl Try.func11 (by kernel_rfl) rfl #[.agg #[.int .i64 t246, .int .i64 t247, .int .i64 t248, .slice Ao16 t249.length co16], .int .i64 x15_1, .int .i64 x16_2] rfl ga ?_; (with_reducible refine (mat_Matrix_At.calls t246 t247 t248 _ _ t249 x15_1 x16_2 t261 _ ?side1 ?side2 A26.out).mono ?_); (case side1 => exact ks HO_253003); (case side2 => exact (Kd.R_reads' HO_253003.out).2.1); rintro e w32 ⟨rfl, hb⟩; refine ⟨_, rfl, ?_⟩; have n0_ := Aside0.mk (Kd.R_below (kr HO_253003) hb); have n1_ := Aside0.mk (Kd.R_below (kr HO_261003) hb); have n2_ := Aside0.mk (blk_below (g := gb252) (o := .cells #[.int .i64 t246, .int .i64 t247, .int .i64 t248, .slice Ao16 t249.length co16] 25 (0, 0)) (kb BK252) hb); have n3_ := Aside0.mk (blk_below (g := gb260) (o := .cells #[.int .i64 t253, .int .i64 t254, .int .i64 t255, .slice Ao21 t256.length co21] 25 (0, 0)) (kb BK260) hb); have n4_ := Aside0.mk (below_step bes hb); clear HO_253003; clear HO_261003; clear BK252; clear BK260; clear HB; have HO_253003 := n0_; have HO_261003 := n1_; have BK252 := n2_; have BK260 := n3_; have HB := n4_; clear n0_ n1_ n2_ n3_ n4_; (try clear hb)) | ((with_reducible refine gate_callee (f := 10) rfl ?_); refine goesL_ (some 53) rfl rfl Try.func10 (by kernel_rfl) rfl #[.int .u64 t261, .int .i64 a4] rfl ga ?_; (with_reducible refine (more_Scale.calls k2 t261 a4 t262 t263 _ A27.out).mono ?_); rintro e w33 ⟨rfl, hb⟩; refine ⟨_, rfl, ?_⟩; have n0_ := Aside0.mk (Kd.R_below (kr HO_253003) hb); have n1_ := Aside0.mk (Kd.R_below (kr HO_261003) hb); have n2_ := Aside0.mk (blk_below (g := gb252) (o := .cells #[.int .i64 t246, .int .i64 t247, .int .i64 t248, .slice Ao16 t249.length co16] 25 (0, 0)) (kb BK252) hb); have n3_ := Aside0.mk (blk_below (g := gb260) (o := .cells #[.int .i64 t253, .int .i64 t254, .int .i64 t255, .slice Ao21 t256.length co21] 25 (0, 0)) (kb BK260) hb); have n4_ := Aside0.mk (below_step bes hb); clear HO_253003; clear HO_261003; clear BK252; clear BK260; clear HB; have HO_253003 := n0_; have HO_261003 := n1_; have BK252 := n2_; have BK260 := n3_; have HB := n4_; clear n0_ n1_ n2_ n3_ n4_; (try clear hb); have hcz34_0 : w33.cell? ⟨gb260, 0, none⟩ = some (.int .i64 t253) := (blk_cell BK260.out 0).trans rfl; have hcz34_1 : w33.cell? ⟨gb260, 1, none⟩ = some (.int .i64 t254) := (blk_cell BK260.out 1).trans rfl; have hcz34_2 : w33.cell? ⟨gb260, 2, none⟩ = some (.int .i64 t255) := (blk_cell BK260.out 2).trans rfl; have hcz34_3 : w33.cell? ⟨gb260, 3, none⟩ = some (.slice Ao21 t256.length co21) := (blk_cell BK260.out 3).trans rfl; have hfz34_0 := blk_frozen BK260.out 0; have hfz34_1 := blk_frozen BK260.out 1; have hfz34_2 := blk_frozen BK260.out 2; have hfz34_3 := blk_frozen BK260.out 3) | ((with_reducible refine gate_callee (f := 11) rfl ?_); refine goesL_ (some 62) rfl rfl Try.func11 (by kernel_rfl) rfl #[.agg #[.int .i64 t253, .int .i64 t254, .int .i64 t255, .slice Ao21 t256.length co21], .int .i64 x15_1, .int .i64 x16_2] rfl ga ?_; (with_reducible refine (mat_Matrix_At.calls t253 t254 t255 _ _ t256 x15_1 x16_2 t264 _ ?side1 ?side2 A28.out).mono ?_); (case side1 => exact ks HO_261003); (case side2 => exact (Kd.R_reads' HO_261003.out).2.1); rintro e w35 ⟨rfl, hb⟩; refine ⟨_, rfl, ?_⟩; have n0_ := Aside0.mk (Kd.R_below (kr HO_253003) hb); have n1_ := Aside0.mk (Kd.R_below (kr HO_261003) hb); have n2_ := Aside0.mk (blk_below (g := gb252) (o := .cells #[.int .i64 t246, .int .i64 t247, .int .i64 t248, .slice Ao16 t249.length co16] 25 (0, 0)) (kb BK252) hb); have n3_ := Aside0.mk (blk_below (g := gb260) (o := .cells #[.int .i64 t253, .int .i64 t254, .int .i64 t255, .slice Ao21 t256.length co21] 25 (0, 0)) (kb BK260) hb); have n4_ := Aside0.mk (below_step bes hb); clear HO_253003; clear HO_261003; clear BK252; clear BK260; clear HB; have HO_253003 := n0_; have HO_261003 := n1_; have BK252 := n2_; have BK260 := n3_; have HB := n4_; clear n0_ n1_ n2_ n3_ n4_; (try clear hb)))
          go_roundg k2
          case measure => have := HK1.out; have := HK2.out; omega
          case rel => exact ⟨(Go.bits .or .u8 x14_2 t263), (wrap64 (x16_2 + 1)), (by first | rfl | (simp; done) | (simp [*]; done)), (by first | rfl | (simp; done) | (simp [*]; done)), H', ⟨by have := HK1.out; have := HK2.out; omega⟩, ⟨by (with_reducible repeat (first | apply Kd.R_alloc | apply Kd.R_drewN | apply Kd.R_drew)); exact HO_253003.out⟩, ⟨by (with_reducible repeat (first | apply Kd.R_alloc | apply Kd.R_drewN | apply Kd.R_drew)); exact HO_261003.out⟩, ⟨kb BK252⟩, ⟨kb BK260⟩, ⟨bes⟩⟩
         ·
          rw [if_neg c29] at H
          have c29b0 : (t264 == t262) = false := beq_eq_false_iff_ne.mpr c29
          have c29b1 : (t264 != t262) = true := bne_iff_ne.mpr c29
          obtain rfl := Option.some.inj H
          have hnb36 := NB252_260.out
          have hnc36 := NB260_252.out
          have hcz37_0 : wr.cell? ⟨gb252, 0, none⟩ = some (.int .i64 t246) := (blk_cell BK252.out 0).trans rfl
          have hcz37_1 : wr.cell? ⟨gb252, 1, none⟩ = some (.int .i64 t247) := (blk_cell BK252.out 1).trans rfl
          have hcz37_2 : wr.cell? ⟨gb252, 2, none⟩ = some (.int .i64 t248) := (blk_cell BK252.out 2).trans rfl
          have hcz37_3 : wr.cell? ⟨gb252, 3, none⟩ = some (.slice Ao16 t249.length co16) := (blk_cell BK252.out 3).trans rfl
          have hfz37_0 := blk_frozen BK252.out 0
          have hfz37_1 := blk_frozen BK252.out 1
          have hfz37_2 := blk_frozen BK252.out 2
          have hfz37_3 := blk_frozen BK252.out 3
          go_wp2_with (first | ((with_reducible refine gate_callee (f := 11) rfl ?_); refine goesL_ (some 51) rfl rfl Try.func11 (by kernel_rfl) rfl #[.agg #[.int .i64 t246, .int .i64 t247, .int .i64 t248, .slice Ao16 t249.length co16], .int .i64 x15_1, .int .i64 x16_2] rfl ga ?_; (with_reducible refine (mat_Matrix_At.calls t246 t247 t248 _ _ t249 x15_1 x16_2 t261 _ ?side1 ?side2 A26.out).mono ?_); (case side1 => exact ks HO_253003); (case side2 => exact (Kd.R_reads' HO_253003.out).2.1); rintro e w38 ⟨rfl, hb⟩; refine ⟨_, rfl, ?_⟩; have n0_ := Aside0.mk (Kd.R_below (kr HO_253003) hb); have n1_ := Aside0.mk (Kd.R_below (kr HO_261003) hb); have n2_ := Aside0.mk (blk_below (g := gb252) (o := .cells #[.int .i64 t246, .int .i64 t247, .int .i64 t248, .slice Ao16 t249.length co16] 25 (0, 0)) (kb BK252) hb); have n3_ := Aside0.mk (blk_below (g := gb260) (o := .cells #[.int .i64 t253, .int .i64 t254, .int .i64 t255, .slice Ao21 t256.length co21] 25 (0, 0)) (kb BK260) hb); have n4_ := Aside0.mk (below_step bes hb); clear HO_253003; clear HO_261003; clear BK252; clear BK260; clear HB; have HO_253003 := n0_; have HO_261003 := n1_; have BK252 := n2_; have BK260 := n3_; have HB := n4_; clear n0_ n1_ n2_ n3_ n4_; (try clear hb)) | ((with_reducible refine gate_callee (f := 10) rfl ?_); refine goesL_ (some 53) rfl rfl Try.func10 (by kernel_rfl) rfl #[.int .u64 t261, .int .i64 a4] rfl ga ?_; (with_reducible refine (more_Scale.calls k2 t261 a4 t262 t263 _ A27.out).mono ?_); rintro e w39 ⟨rfl, hb⟩; refine ⟨_, rfl, ?_⟩; have n0_ := Aside0.mk (Kd.R_below (kr HO_253003) hb); have n1_ := Aside0.mk (Kd.R_below (kr HO_261003) hb); have n2_ := Aside0.mk (blk_below (g := gb252) (o := .cells #[.int .i64 t246, .int .i64 t247, .int .i64 t248, .slice Ao16 t249.length co16] 25 (0, 0)) (kb BK252) hb); have n3_ := Aside0.mk (blk_below (g := gb260) (o := .cells #[.int .i64 t253, .int .i64 t254, .int .i64 t255, .slice Ao21 t256.length co21] 25 (0, 0)) (kb BK260) hb); have n4_ := Aside0.mk (below_step bes hb); clear HO_253003; clear HO_261003; clear BK252; clear BK260; clear HB; have HO_253003 := n0_; have HO_261003 := n1_; have BK252 := n2_; have BK260 := n3_; have HB := n4_; clear n0_ n1_ n2_ n3_ n4_; (try clear hb); have hcz40_0 : w39.cell? ⟨gb260, 0, none⟩ = some (.int .i64 t253) := (blk_cell BK260.out 0).trans rfl; have hcz40_1 : w39.cell? ⟨gb260, 1, none⟩ = some (.int .i64 t254) := (blk_cell BK260.out 1).trans rfl; have hcz40_2 : w39.cell? ⟨gb260, 2, none⟩ = some (.int .i64 t255) := (blk_cell BK260.out 2).trans rfl; have hcz40_3 : w39.cell? ⟨gb260, 3, none⟩ = some (.slice Ao21 t256.length co21) := (blk_cell BK260.out 3).trans rfl; have hfz40_0 := blk_frozen BK260.out 0; have hfz40_1 := blk_frozen BK260.out 1; have hfz40_2 := blk_frozen BK260.out 2; have hfz40_3 := blk_frozen BK260.out 3) | ((with_reducible refine gate_callee (f := 11) rfl ?_); refine goesL_ (some 62) rfl rfl Try.func11 (by kernel_rfl) rfl #[.agg #[.int .i64 t253, .int .i64 t254, .int .i64 t255, .slice Ao21 t256.length co21], .int .i64 x15_1, .int .i64 x16_2] rfl ga ?_; (with_reducible refine (mat_Matrix_At.calls t253 t254 t255 _ _ t256 x15_1 x16_2 t264 _ ?side1 ?side2 A28.out).mono ?_); (case side1 => exact ks HO_261003); (case side2 => exact (Kd.R_reads' HO_261003.out).2.1); rintro e w41 ⟨rfl, hb⟩; refine ⟨_, rfl, ?_⟩; have n0_ := Aside0.mk (Kd.R_below (kr HO_253003) hb); have n1_ := Aside0.mk (Kd.R_below (kr HO_261003) hb); have n2_ := Aside0.mk (blk_below (g := gb252) (o := .cells #[.int .i64 t246, .int .i64 t247, .int .i64 t248, .slice Ao16 t249.length co16] 25 (0, 0)) (kb BK252) hb); have n3_ := Aside0.mk (blk_below (g := gb260) (o := .cells #[.int .i64 t253, .int .i64 t254, .int .i64 t255, .slice Ao21 t256.length co21] 25 (0, 0)) (kb BK260) hb); have n4_ := Aside0.mk (below_step bes hb); clear HO_253003; clear HO_261003; clear BK252; clear BK260; clear HB; have HO_253003 := n0_; have HO_261003 := n1_; have BK252 := n2_; have BK260 := n3_; have HB := n4_; clear n0_ n1_ n2_ n3_ n4_; (try clear hb)))
          go_ret
          exact ⟨er, bes⟩
        ·
         rw [if_neg c25] at H
         have c25b0 : decide (x16_2 < t247) = false := decide_eq_false c25
         clear c25
         have H' := Aside0.mk H
         clear H
         have hnb42 := NB252_260.out
         have hnc42 := NB260_252.out
         have hcz43_0 : wr.cell? ⟨gb252, 0, none⟩ = some (.int .i64 t246) := (blk_cell BK252.out 0).trans rfl
         have hcz43_1 : wr.cell? ⟨gb252, 1, none⟩ = some (.int .i64 t247) := (blk_cell BK252.out 1).trans rfl
         have hcz43_2 : wr.cell? ⟨gb252, 2, none⟩ = some (.int .i64 t248) := (blk_cell BK252.out 2).trans rfl
         have hcz43_3 : wr.cell? ⟨gb252, 3, none⟩ = some (.slice Ao16 t249.length co16) := (blk_cell BK252.out 3).trans rfl
         have hfz43_0 := blk_frozen BK252.out 0
         have hfz43_1 := blk_frozen BK252.out 1
         have hfz43_2 := blk_frozen BK252.out 2
         have hfz43_3 := blk_frozen BK252.out 3
         go_wp2
         go_roundg k2
         case measure => have := HK1.out; have := HK2.out; omega
         case rel => exact ⟨(x14_2), (wrap64 (x15_1 + 1)), (by first | rfl | (simp; done) | (simp [*]; done)), (by first | rfl | (simp; done) | (simp [*]; done)), H', ⟨by have := HK1.out; have := HK2.out; omega⟩, ⟨by (with_reducible repeat (first | apply Kd.R_alloc | apply Kd.R_drewN | apply Kd.R_drew)); exact HO_253003.out⟩, ⟨by (with_reducible repeat (first | apply Kd.R_alloc | apply Kd.R_drewN | apply Kd.R_drew)); exact HO_261003.out⟩, ⟨kb BK252⟩, ⟨kb BK260⟩, ⟨bes⟩⟩
     ·
      rw [if_neg c22] at H
      have c22b0 : decide (x15_1 < t246) = false := decide_eq_false c22
      clear c22
      by_cases c44 : t259 = x14_1
      ·
       rw [if_pos c44] at H
       have c44b0 : (t259 == x14_1) = true := beq_iff_eq.mpr c44
       have c44b1 : (t259 != x14_1) = false := bne_eq_false_iff_eq.mpr c44
       clear c44
       by_cases c45 : t253 = t246
       ·
        rw [if_pos c45] at H
        have c45b0 : (t253 == t246) = true := beq_iff_eq.mpr c45
        have c45b1 : (t253 != t246) = false := bne_eq_false_iff_eq.mpr c45
        clear c45
        by_cases c46 : t254 = t247
        ·
         rw [if_pos c46] at H
         have c46b0 : (t254 == t247) = true := beq_iff_eq.mpr c46
         have c46b1 : (t254 != t247) = false := bne_eq_false_iff_eq.mpr c46
         clear c46
         obtain ⟨t265, A470, H⟩ := Option.bind_eq_some_iff.mp H
         (try dsimp -simprocs only at H)
         have A47 := Aside0.mk A470
         clear A470
         obtain rfl := Option.some.inj H
         have hnb48 := NB252_260.out
         have hnc48 := NB260_252.out
         have hcz49_0 : wr.cell? ⟨gb252, 0, none⟩ = some (.int .i64 t246) := (blk_cell BK252.out 0).trans rfl
         have hcz49_1 : wr.cell? ⟨gb252, 1, none⟩ = some (.int .i64 t247) := (blk_cell BK252.out 1).trans rfl
         have hcz49_2 : wr.cell? ⟨gb252, 2, none⟩ = some (.int .i64 t248) := (blk_cell BK252.out 2).trans rfl
         have hcz49_3 : wr.cell? ⟨gb252, 3, none⟩ = some (.slice Ao16 t249.length co16) := (blk_cell BK252.out 3).trans rfl
         have hfz49_0 := blk_frozen BK252.out 0
         have hfz49_1 := blk_frozen BK252.out 1
         have hfz49_2 := blk_frozen BK252.out 2
         have hfz49_3 := blk_frozen BK252.out 3
         have hcz50_0 : wr.cell? ⟨gb260, 0, none⟩ = some (.int .i64 t253) := (blk_cell BK260.out 0).trans rfl
         have hcz50_1 : wr.cell? ⟨gb260, 1, none⟩ = some (.int .i64 t254) := (blk_cell BK260.out 1).trans rfl
         have hcz50_2 : wr.cell? ⟨gb260, 2, none⟩ = some (.int .i64 t255) := (blk_cell BK260.out 2).trans rfl
         have hcz50_3 : wr.cell? ⟨gb260, 3, none⟩ = some (.slice Ao21 t256.length co21) := (blk_cell BK260.out 3).trans rfl
         have hfz50_0 := blk_frozen BK260.out 0
         have hfz50_1 := blk_frozen BK260.out 1
         have hfz50_2 := blk_frozen BK260.out 2
         have hfz50_3 := blk_frozen BK260.out 3
         go_wp2_with (first | (go_at_call 12; (with_reducible refine (mat_Matrix_Check.calls k1 t253 t254 t255 _ _ t256 t265 _ ?side1 ?side2 A47.out).mono ?_); (case side1 => exact ks HO_261003); (case side2 => exact (Kd.R_reads' HO_261003.out).2.1); rintro e w51 ⟨rfl, hb⟩; have n0_ := Aside0.mk (Kd.R_below (kr HO_253003) hb); have n1_ := Aside0.mk (Kd.R_below (kr HO_261003) hb); have n2_ := Aside0.mk (blk_below (g := gb252) (o := .cells #[.int .i64 t246, .int .i64 t247, .int .i64 t248, .slice Ao16 t249.length co16] 25 (0, 0)) (kb BK252) hb); have n3_ := Aside0.mk (blk_below (g := gb260) (o := .cells #[.int .i64 t253, .int .i64 t254, .int .i64 t255, .slice Ao21 t256.length co21] 25 (0, 0)) (kb BK260) hb); have n4_ := Aside0.mk (below_step bes hb); clear HO_253003; clear HO_261003; clear BK252; clear BK260; clear HB; have HO_253003 := n0_; have HO_261003 := n1_; have BK252 := n2_; have BK260 := n3_; have HB := n4_; clear n0_ n1_ n2_ n3_ n4_; (try clear hb)))
         go_ret
         exact ⟨er, bes⟩
        ·
         rw [if_neg c46] at H
         have c46b0 : (t254 == t247) = false := beq_eq_false_iff_ne.mpr c46
         have c46b1 : (t254 != t247) = true := bne_iff_ne.mpr c46
         obtain rfl := Option.some.inj H
         have hnb52 := NB252_260.out
         have hnc52 := NB260_252.out
         have hcz53_0 : wr.cell? ⟨gb252, 0, none⟩ = some (.int .i64 t246) := (blk_cell BK252.out 0).trans rfl
         have hcz53_1 : wr.cell? ⟨gb252, 1, none⟩ = some (.int .i64 t247) := (blk_cell BK252.out 1).trans rfl
         have hcz53_2 : wr.cell? ⟨gb252, 2, none⟩ = some (.int .i64 t248) := (blk_cell BK252.out 2).trans rfl
         have hcz53_3 : wr.cell? ⟨gb252, 3, none⟩ = some (.slice Ao16 t249.length co16) := (blk_cell BK252.out 3).trans rfl
         have hfz53_0 := blk_frozen BK252.out 0
         have hfz53_1 := blk_frozen BK252.out 1
         have hfz53_2 := blk_frozen BK252.out 2
         have hfz53_3 := blk_frozen BK252.out 3
         have hcz54_0 : wr.cell? ⟨gb260, 0, none⟩ = some (.int .i64 t253) := (blk_cell BK260.out 0).trans rfl
         have hcz54_1 : wr.cell? ⟨gb260, 1, none⟩ = some (.int .i64 t254) := (blk_cell BK260.out 1).trans rfl
         have hcz54_2 : wr.cell? ⟨gb260, 2, none⟩ = some (.int .i64 t255) := (blk_cell BK260.out 2).trans rfl
         have hcz54_3 : wr.cell? ⟨gb260, 3, none⟩ = some (.slice Ao21 t256.length co21) := (blk_cell BK260.out 3).trans rfl
         have hfz54_0 := blk_frozen BK260.out 0
         have hfz54_1 := blk_frozen BK260.out 1
         have hfz54_2 := blk_frozen BK260.out 2
         have hfz54_3 := blk_frozen BK260.out 3
         go_wp2
         go_ret
         exact ⟨er, bes⟩
       ·
        rw [if_neg c45] at H
        have c45b0 : (t253 == t246) = false := beq_eq_false_iff_ne.mpr c45
        have c45b1 : (t253 != t246) = true := bne_iff_ne.mpr c45
        obtain rfl := Option.some.inj H
        have hnb55 := NB252_260.out
        have hnc55 := NB260_252.out
        have hcz56_0 : wr.cell? ⟨gb252, 0, none⟩ = some (.int .i64 t246) := (blk_cell BK252.out 0).trans rfl
        have hcz56_1 : wr.cell? ⟨gb252, 1, none⟩ = some (.int .i64 t247) := (blk_cell BK252.out 1).trans rfl
        have hcz56_2 : wr.cell? ⟨gb252, 2, none⟩ = some (.int .i64 t248) := (blk_cell BK252.out 2).trans rfl
        have hcz56_3 : wr.cell? ⟨gb252, 3, none⟩ = some (.slice Ao16 t249.length co16) := (blk_cell BK252.out 3).trans rfl
        have hfz56_0 := blk_frozen BK252.out 0
        have hfz56_1 := blk_frozen BK252.out 1
        have hfz56_2 := blk_frozen BK252.out 2
        have hfz56_3 := blk_frozen BK252.out 3
        have hcz57_0 : wr.cell? ⟨gb260, 0, none⟩ = some (.int .i64 t253) := (blk_cell BK260.out 0).trans rfl
        have hcz57_1 : wr.cell? ⟨gb260, 1, none⟩ = some (.int .i64 t254) := (blk_cell BK260.out 1).trans rfl
        have hcz57_2 : wr.cell? ⟨gb260, 2, none⟩ = some (.int .i64 t255) := (blk_cell BK260.out 2).trans rfl
        have hcz57_3 : wr.cell? ⟨gb260, 3, none⟩ = some (.slice Ao21 t256.length co21) := (blk_cell BK260.out 3).trans rfl
        have hfz57_0 := blk_frozen BK260.out 0
        have hfz57_1 := blk_frozen BK260.out 1
        have hfz57_2 := blk_frozen BK260.out 2
        have hfz57_3 := blk_frozen BK260.out 3
        go_wp2
        go_ret
        exact ⟨er, bes⟩
      ·
       rw [if_neg c44] at H
       have c44b0 : (t259 == x14_1) = false := beq_eq_false_iff_ne.mpr c44
       have c44b1 : (t259 != x14_1) = true := bne_iff_ne.mpr c44
       obtain rfl := Option.some.inj H
       have hnb58 := NB252_260.out
       have hnc58 := NB260_252.out
       have hcz59_0 : wr.cell? ⟨gb252, 0, none⟩ = some (.int .i64 t246) := (blk_cell BK252.out 0).trans rfl
       have hcz59_1 : wr.cell? ⟨gb252, 1, none⟩ = some (.int .i64 t247) := (blk_cell BK252.out 1).trans rfl
       have hcz59_2 : wr.cell? ⟨gb252, 2, none⟩ = some (.int .i64 t248) := (blk_cell BK252.out 2).trans rfl
       have hcz59_3 : wr.cell? ⟨gb252, 3, none⟩ = some (.slice Ao16 t249.length co16) := (blk_cell BK252.out 3).trans rfl
       have hfz59_0 := blk_frozen BK252.out 0
       have hfz59_1 := blk_frozen BK252.out 1
       have hfz59_2 := blk_frozen BK252.out 2
       have hfz59_3 := blk_frozen BK252.out 3
       go_wp2
       go_ret
       exact ⟨er, bes⟩
 ·
  replace c7 := Bool.eq_false_iff.mpr c7
  subst c7
  rw [if_neg (show ¬ (false = true) by decide)] at H
  obtain rfl := Option.some.inj H
  go_enter Try.func3, Try.ntmps3
  go_wp2_with (first | ((with_reducible refine gate_callee (f := 7) rfl ?_); refine goesL_ (some 19) rfl rfl Try.func7 (by kernel_rfl) rfl #[] rfl ga ?_; (with_reducible refine (gimballaw09_head.calls k  false _ A6.out).mono ?_); rintro e w60 ⟨rfl, hb⟩; refine ⟨_, rfl, ?_⟩; have n0_ := Aside0.mk (below_step bel hb); clear HB; have HB := n0_; clear n0_; (try clear hb)))
  go_ret
  exact ⟨er, bel⟩

/-- THE ONE PURE STATEMENT of gimballaw09_MatScales: yours. -/
def gimballaw09_MatScales.Pure : Prop := ∀ (a0 : Int) (a1 : Int) (a2 : Int) (l3 : List Int) (a4 : Int), (Lit.int .i64 a0).wf = true → (Lit.int .i64 a1).wf = true → (Lit.int .i64 a2).wf = true → l3.length ≤ maxLen → l3.length * 8 ≤ 140737488351232 → (∀ x ∈ l3, (Lit.int .u64 x).wf = true) → (Lit.int .i64 a4).wf = true → ∃ k, gimballaw09_MatScales.f k a0 a1 a2 l3 a4 = some true
theorem gimballaw09_MatScales.walk (P : gimballaw09_MatScales.Pure) (a0 : Int) (a1 : Int) (a2 : Int) (a3 : Option Addr) (len3 cap3 : Nat) (z3 : List Int) (a4 : Int) (w : World) (w0 : (Lit.int .i64 a0).wf = true) (w1 : (Lit.int .i64 a1).wf = true) (w2 : (Lit.int .i64 a2).wf = true) (w3 : (a3 = none ∧ len3 = 0 ∧ cap3 = 0 ∧ z3 = []) ∨ ∃ x, a3 = some x ∧ len3 ≤ cap3 ∧ cap3 ≤ maxLen ∧ z3.length = cap3 ∧ (∀ i, i < z3.length → w.cell? (x.add i) = some (.int .u64 (z3.getD i 0))) ∧ ∀ n ∈ z3, (Lit.int .u64 n).wf = true) (y3 : len3 * 8 ≤ 140737488351232) (w4 : (Lit.int .i64 a4).wf = true) :
  Calls Try.prog 3 #[.int .i64 a0, .int .i64 a1, .int .i64 a2, .slice a3 len3 cap3, .int .i64 a4] w fun e w' => e = .returned (.bool true) ∧ Below w.heap.size w w' := by
 obtain ⟨l3, rfl, hr3, hm3, hw3, hc3⟩ := ReadsInt.ofRowC w3
 obtain ⟨k, h⟩ := P a0 a1 a2 l3 a4 w0 w1 w2 hm3 y3 hw3 w4
 refine (gimballaw09_MatScales.calls k a0 a1 a2 _ _ l3 a4 true w (Kd.C_of_reads (d := (0 : Int)) (h1 := fun _ => rfl) hr3) hc3 h).mono ?_
 rintro e w' ⟨rfl, hd⟩
 exact ⟨rfl, hd⟩

end Go.Proofs.Ytenegelkbfmjkaa.F
