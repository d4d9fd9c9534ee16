-- Written by a program of this seat's session (mkprint), out of the translation.
import Derived.Test.YtenegelkbfmjkaaShort
import Derived.Test.YtenegelkbfmjkaaFx0
import Derived.Test.YtenegelkbfmjkaaFx5
import Derived.Test.YtenegelkbfmjkaaFx7
import Derived.Test.YtenegelkbfmjkaaFx8
import Derived.Test.YtenegelkbfmjkaaFx9
namespace Go.Proofs.Ytenegelkbfmjkaa.F
open Go.RowKit Go.Proofs.YtenegelkbfmjkaaW.PrintWords Go.Proofs.YtenegelkbfmjkaaW.PrintLast Go.Proofs.YtenegelkbfmjkaaW.PrintMore
attribute [local go_sem] max2_int min2_int max_two min_two max_three min_three max_four min_four   -- for this text's walks alone
set_option linter.unusedVariables false
set_option linter.unusedSimpArgs false

/-! ### gimballaw09_MatParts: function 6 -/
def gimballaw09_MatParts.j0 : Nat → Int → Int → Bool → Int → Int → Int → List Int → Int → Int → Int → List Int → Option (Bool)
 | 0, _, _, _, _, _, _, _, _, _, _, _ => none
 | k + 1, x21, x23, x113, x410000, x410001, x410002, x410003, x418000, x418001, x418002, x418003 => if x113 = true then (some false) else (if x21 = x23 then (if x21 = 0 then ((mat_Matrix_Same.f k x410000 x410001 x410002 x410003 x418000 x418001 x418002 x418003).bind fun t439 => (some t439)) else (some true)) else (some false))
def gimballaw09_MatParts.f (k : Nat) (a0 : Int) (a1 : Int) (a2 : Int) (l3 : List Int) (a4 : Int) (a5 : Int) (a6 : Int) (a7 : Int) : Option (Bool) := (gimballaw09_head.f k).bind fun t386 => (if t386 = true then (if (l3.length : Int) > 100 then (some true) else ((gimballaw09_Made.f k a0 a1 a2 l3).bind fun bt387 => ((mat_Matrix_Cut.f k bt387.1 bt387.2.1 bt387.2.2.1 bt387.2.2.2 (Go.bits .and .i64 a4 3) (Go.bits .and .i64 a5 3) (wrap64 (bt387.1 - (Go.bits .and .i64 a4 3))) (wrap64 (bt387.2.1 - (Go.bits .and .i64 a5 3)))).bind fun bt394 => ((mat_Matrix_Cut.f k bt394.1 bt394.2.1 bt394.2.2.1 bt394.2.2.2.1 (Go.bits .and .i64 a6 3) (Go.bits .and .i64 a7 3) 1 1).bind fun bt402 => ((mat_Matrix_Cut.f k bt387.1 bt387.2.1 bt387.2.2.1 bt387.2.2.2 (wrap64 ((Go.bits .and .i64 a4 3) + (Go.bits .and .i64 a6 3))) (wrap64 ((Go.bits .and .i64 a5 3) + (Go.bits .and .i64 a7 3))) 1 1).bind fun bt410 => (if bt394.2.2.2.2 = 0 then ((mat_Matrix_Turn.f k bt387.1 bt387.2.1 bt387.2.2.1 bt387.2.2.2).bind fun bt418 => ((mat_Matrix_Cut.f k bt418.1 bt418.2.1 bt418.2.2.1 bt418.2.2.2 (Go.bits .and .i64 a5 3) (Go.bits .and .i64 a4 3) (wrap64 (bt387.2.1 - (Go.bits .and .i64 a5 3))) (wrap64 (bt387.1 - (Go.bits .and .i64 a4 3)))).bind fun bt424 => (if bt424.2.2.2.2 = 0 then ((mat_Matrix_Turn.f k bt424.1 bt424.2.1 bt424.2.2.1 bt424.2.2.2.1).bind fun bt432 => ((mat_Matrix_Same.f k bt432.1 bt432.2.1 bt432.2.2.1 bt432.2.2.2 bt394.1 bt394.2.1 bt394.2.2.1 bt394.2.2.2.1).bind fun t438 => (gimballaw09_MatParts.j0 k bt402.2.2.2.2 bt410.2.2.2.2 (!t438) bt402.1 bt402.2.1 bt402.2.2.1 bt402.2.2.2.1 bt410.1 bt410.2.1 bt410.2.2.1 bt410.2.2.2.1))) else (gimballaw09_MatParts.j0 k bt402.2.2.2.2 bt410.2.2.2.2 true bt402.1 bt402.2.1 bt402.2.2.1 bt402.2.2.2.1 bt410.1 bt410.2.1 bt410.2.2.1 bt410.2.2.2.1)))) else (if (Go.bits .and .i64 a4 3) > bt387.1 then (some true) else (some (decide ((Go.bits .and .i64 a5 3) > bt387.2.1)))))))))) else (some false))
theorem gimballaw09_MatParts.mono_l : ∀ k, (∀ y0 y1 y2 y3 y4 y5 y6 y7 y8 y9 y10, LeO (gimballaw09_MatParts.j0 k y0 y1 y2 y3 y4 y5 y6 y7 y8 y9 y10) (gimballaw09_MatParts.j0 (k + 1) y0 y1 y2 y3 y4 y5 y6 y7 y8 y9 y10))
 | 0 => fun _ _ _ _ _ _ _ _ _ _ _ r h => by simp [gimballaw09_MatParts.j0] at h
 | k + 1 => by
  have ih0 := gimballaw09_MatParts.mono_l k
  ·
   intro y0 y1 y2 y3 y4 y5 y6 y7 y8 y9 y10
   unfold gimballaw09_MatParts.j0
   repeat' first
   | (with_reducible exact ih0 _ _ _ _ _ _ _ _ _ _ _)
   | (with_reducible exact gimballaw09_Made.mono _ _ _ _ _)
   | (with_reducible exact gimballaw09_head.mono _)
   | (with_reducible exact mat_Matrix_Cut.mono _ _ _ _ _ _ _ _ _)
   | (with_reducible exact mat_Matrix_Same.mono _ _ _ _ _ _ _ _ _)
   | (with_reducible exact mat_Matrix_Turn.mono _ _ _ _ _)
   | (with_reducible exact LeO.refl _)
   | (with_reducible exact LeO.none _)
   | (with_reducible refine LeO.ite ?_ ?_)
   | (with_reducible refine LeO.bind ?_ (fun _ => ?_))
   | exact ih0 _ _ _ _ _ _ _ _ _ _ _
   | exact gimballaw09_Made.mono _ _ _ _ _
   | exact gimballaw09_head.mono _
   | exact mat_Matrix_Cut.mono _ _ _ _ _ _ _ _ _
   | exact mat_Matrix_Same.mono _ _ _ _ _ _ _ _ _
   | exact mat_Matrix_Turn.mono _ _ _ _ _
   | exact LeO.none _
   | refine LeO.ite ?_ ?_
   | refine LeO.bind ?_ (fun _ => ?_)
theorem gimballaw09_MatParts.mono : ∀ a0 a1 a2 a3 a4 a5 a6 a7 k, LeO (gimballaw09_MatParts.f k a0 a1 a2 a3 a4 a5 a6 a7) (gimballaw09_MatParts.f (k + 1) a0 a1 a2 a3 a4 a5 a6 a7) := by
 intro a0 a1 a2 a3 a4 a5 a6 a7 k
 have ih0 := gimballaw09_MatParts.mono_l k
 unfold gimballaw09_MatParts.f
 repeat' first
   | (with_reducible exact ih0 _ _ _ _ _ _ _ _ _ _ _)
   | (with_reducible exact gimballaw09_Made.mono _ _ _ _ _)
   | (with_reducible exact gimballaw09_head.mono _)
   | (with_reducible exact mat_Matrix_Cut.mono _ _ _ _ _ _ _ _ _)
   | (with_reducible exact mat_Matrix_Same.mono _ _ _ _ _ _ _ _ _)
   | (with_reducible exact mat_Matrix_Turn.mono _ _ _ _ _)
   | (with_reducible exact LeO.refl _)
   | (with_reducible exact LeO.none _)
   | (with_reducible refine LeO.ite ?_ ?_)
   | (with_reducible refine LeO.bind ?_ (fun _ => ?_))
   | exact ih0 _ _ _ _ _ _ _ _ _ _ _
   | exact gimballaw09_Made.mono _ _ _ _ _
   | exact gimballaw09_head.mono _
   | exact mat_Matrix_Cut.mono _ _ _ _ _ _ _ _ _
   | exact mat_Matrix_Same.mono _ _ _ _ _ _ _ _ _
   | exact mat_Matrix_Turn.mono _ _ _ _ _
   | exact LeO.none _
   | refine LeO.ite ?_ ?_
   | refine LeO.bind ?_ (fun _ => ?_)
def gimballaw09_MatParts.T15 : Bool × List (List Nat × List Nat) := (true, [([], []), ([0], [0]), ([], []), ([], []), ([], []), ([4], [4]), ([], []), ([5, 6], [5, 6]), ([], []), ([8], [8]), ([], []), ([9, 10], [9, 10]), ([1, 2, 3, 7, 11, 1], [1, 2, 3, 7, 11]), ([12], [12]), ([13], [13]), ([13], [13]), ([], []), ([16, 14, 12, 0, 1, 2, 3, 4, 5, 6, 7, 8, 9, 10, 11, 12, 13, 14, 16], [14, 16]), ([15, 17, 0, 1, 2, 3, 4, 5, 6, 7, 8, 9, 10, 11, 12, 13, 14, 15, 16, 17], [15])])
def gimballaw09_MatParts.B15 : List Nat := [0, 1, 0, 0, 0, 16, 0, 112, 0, 256, 0, 1792, 4095, 8191, 16383, 16383, 0, 98303, 262143]
theorem gimballaw09_MatParts.tab15 : rtab .any (opsOf Try.f6 15) = gimballaw09_MatParts.T15 := by kernel_rfl
theorem gimballaw09_MatParts.bits15 : waitsOk gimballaw09_MatParts.T15.2 gimballaw09_MatParts.B15 = true := by kernel_rfl
def gimballaw09_MatParts.T16 : Bool × List (List Nat × List Nat) := (true, [([], []), ([0], [0]), ([1], [1]), ([2], [2]), ([3, 2, 2], [2, 3]), ([2], [2]), ([4, 5, 4, 2], [2, 4, 5]), ([6, 2], [2, 6]), ([2, 7], [2, 7])])
def gimballaw09_MatParts.B16 : List Nat := [0, 1, 3, 7, 15, 7, 63, 127, 255]
theorem gimballaw09_MatParts.tab16 : rtab .any (opsOf Try.f6 16) = gimballaw09_MatParts.T16 := by kernel_rfl
theorem gimballaw09_MatParts.bits16 : waitsOk gimballaw09_MatParts.T16.2 gimballaw09_MatParts.B16 = true := by kernel_rfl
set_option maxHeartbeats 8000000 in
set_option maxRecDepth 100000 in
theorem gimballaw09_MatParts.calls (k : Nat) (a0 : Int) (a1 : Int) (a2 : Int) (A3 : Option Addr) (c3 : Nat) (l3 : List Int) (a4 : Int) (a5 : Int) (a6 : Int) (a7 : Int) (r : Bool) (w : World) (hr3 : Kd.C (Kd.int .u64) w A3 l3.length l3) (hc3 : l3.length ≤ c3) (h : gimballaw09_MatParts.f k a0 a1 a2 l3 a4 a5 a6 a7 = some r) :
  Calls Try.prog 6 #[.int .i64 a0, .int .i64 a1, .int .i64 a2, .slice A3 l3.length c3, .int .i64 a4, .int .i64 a5, .int .i64 a6, .int .i64 a7] w fun e w' => e = .returned (.bool r) ∧ Below w.heap.size w w' := by
 have hu25 := Try.underlying25
 have HR3 := Aside0.mk hr3
 have HC3 := Aside0.mk hc3
 clear hr3 hc3
 have HB := Aside0.mk (Below.refl w.heap.size w)
 have H : ((gimballaw09_head.f k).bind fun t386 => (if t386 = true then (if (l3.length : Int) > 100 then (some true) else ((gimballaw09_Made.f k a0 a1 a2 l3).bind fun bt387 => ((mat_Matrix_Cut.f k bt387.1 bt387.2.1 bt387.2.2.1 bt387.2.2.2 (Go.bits .and .i64 a4 3) (Go.bits .and .i64 a5 3) (wrap64 (bt387.1 - (Go.bits .and .i64 a4 3))) (wrap64 (bt387.2.1 - (Go.bits .and .i64 a5 3)))).bind fun bt394 => ((mat_Matrix_Cut.f k bt394.1 bt394.2.1 bt394.2.2.1 bt394.2.2.2.1 (Go.bits .and .i64 a6 3) (Go.bits .and .i64 a7 3) 1 1).bind fun bt402 => ((mat_Matrix_Cut.f k bt387.1 bt387.2.1 bt387.2.2.1 bt387.2.2.2 (wrap64 ((Go.bits .and .i64 a4 3) + (Go.bits .and .i64 a6 3))) (wrap64 ((Go.bits .and .i64 a5 3) + (Go.bits .and .i64 a7 3))) 1 1).bind fun bt410 => (if bt394.2.2.2.2 = 0 then ((mat_Matrix_Turn.f k bt387.1 bt387.2.1 bt387.2.2.1 bt387.2.2.2).bind fun bt418 => ((mat_Matrix_Cut.f k bt418.1 bt418.2.1 bt418.2.2.1 bt418.2.2.2 (Go.bits .and .i64 a5 3) (Go.bits .and .i64 a4 3) (wrap64 (bt387.2.1 - (Go.bits .and .i64 a5 3))) (wrap64 (bt387.1 - (Go.bits .and .i64 a4 3)))).bind fun bt424 => (if bt424.2.2.2.2 = 0 then ((mat_Matrix_Turn.f k bt424.1 bt424.2.1 bt424.2.2.1 bt424.2.2.2.1).bind fun bt432 => ((mat_Matrix_Same.f k bt432.1 bt432.2.1 bt432.2.2.1 bt432.2.2.2 bt394.1 bt394.2.1 bt394.2.2.1 bt394.2.2.2.1).bind fun t438 => (gimballaw09_MatParts.j0 k bt402.2.2.2.2 bt410.2.2.2.2 (!t438) bt402.1 bt402.2.1 bt402.2.2.1 bt402.2.2.2.1 bt410.1 bt410.2.1 bt410.2.2.1 bt410.2.2.2.1))) else (gimballaw09_MatParts.j0 k bt402.2.2.2.2 bt410.2.2.2.2 true bt402.1 bt402.2.1 bt402.2.2.1 bt402.2.2.2.1 bt410.1 bt410.2.1 bt410.2.2.1 bt410.2.2.2.1)))) else (if (Go.bits .and .i64 a4 3) > bt387.1 then (some true) else (some (decide ((Go.bits .and .i64 a5 3) > bt387.2.1)))))))))) else (some false))) = some r := h
 clear h
 obtain ⟨t386, A90, H⟩ := Option.bind_eq_some_iff.mp H
 (try dsimp -simprocs only at H)
 have A9 := Aside0.mk A90
 clear A90
 by_cases c10 : t386 = true
 ·
  subst c10
  rw [if_pos rfl] at H
  by_cases c11 : (l3.length : Int) > 100
  ·
   rw [if_pos c11] at H
   have c11b0 : decide (100 < (l3.length : Int)) = true := decide_eq_true c11
   have c11b1 : decide (100 < l3.length) = true := decide_eq_true (by omega)
   clear c11
   obtain rfl := Option.some.inj H
   go_enter Try.func6, Try.ntmps6
   go_wp2_with (first | ((with_reducible refine gate_callee (f := 7) rfl ?_); refine goesL_ (some 26) rfl rfl Try.func7 (by kernel_rfl) rfl #[] rfl ga ?_; (with_reducible refine (gimballaw09_head.calls k  true _ A9.out).mono ?_); rintro e w12 ⟨rfl, hb⟩; refine ⟨_, rfl, ?_⟩; have n0_ := Aside0.mk (below_step bel hb); clear HB; have HB := n0_; clear n0_; (try clear hb)))
   go_ret
   exact ⟨er, bel⟩
  ·
   rw [if_neg c11] at H
   have c11b0 : decide (100 < (l3.length : Int)) = false := decide_eq_false c11
   have c11b1 : decide (100 < l3.length) = false := decide_eq_false (by omega)
   clear c11
   obtain ⟨⟨t387, t388, t389, t390⟩, A130, H⟩ := Option.bind_eq_some_iff.mp H
   (try dsimp -simprocs only at H)
   have A13 := Aside0.mk A130
   clear A130
   obtain ⟨⟨t394, t395, t396, t397, t400⟩, A140, H⟩ := Option.bind_eq_some_iff.mp H
   (try dsimp -simprocs only at H)
   have A14 := Aside0.mk A140
   clear A140
   obtain ⟨⟨t402, t403, t404, t405, t408⟩, A150, H⟩ := Option.bind_eq_some_iff.mp H
   (try dsimp -simprocs only at H)
   have A15 := Aside0.mk A150
   clear A150
   obtain ⟨⟨t410, t411, t412, t413, t416⟩, A160, H⟩ := Option.bind_eq_some_iff.mp H
   (try dsimp -simprocs only at H)
   have A16 := Aside0.mk A160
   clear A160
   by_cases c17 : t400 = 0
   ·
    rw [if_pos c17] at H
    have c17b0 : (t400 == 0) = true := beq_iff_eq.mpr c17
    have c17b1 : (t400 != 0) = false := bne_eq_false_iff_eq.mpr c17
    clear c17
    obtain ⟨⟨t418, t419, t420, t421⟩, A180, H⟩ := Option.bind_eq_some_iff.mp H
    (try dsimp -simprocs only at H)
    have A18 := Aside0.mk A180
    clear A180
    obtain ⟨⟨t424, t425, t426, t427, t430⟩, A190, H⟩ := Option.bind_eq_some_iff.mp H
    (try dsimp -simprocs only at H)
    have A19 := Aside0.mk A190
    clear A190
    have HC20 := Aside0.mk H
    clear H
    go_enter Try.func6, Try.ntmps6
    try go_wp2_with (first | ((with_reducible refine gate_callee (f := 7) rfl ?_); refine goesL_ (some 26) rfl rfl Try.func7 (by kernel_rfl) rfl #[] rfl ga ?_; (with_reducible refine (gimballaw09_head.calls k  true _ A9.out).mono ?_); rintro e w21 ⟨rfl, hb⟩; refine ⟨_, rfl, ?_⟩; have n0_ := Aside0.mk (below_step bel hb); clear HB; have HB := n0_; clear n0_; (try clear hb)) | ((with_reducible refine gate_callee (f := 8) rfl ?_); refine goesL_ (some 35) rfl rfl Try.func8 (by kernel_rfl) rfl #[.int .i64 a0, .int .i64 a1, .int .i64 a2, .slice A3 l3.length c3] rfl ga ?_; (with_reducible refine (gimballaw09_Made.calls k a0 a1 a2 _ _ l3 t387 t388 t389 t390 _ ?side1 ?side2 A13.out).mono ?_); (case side1 => repeat (first | exact (Kd.C_below HR3.out HB.out) | (with_reducible refine Kd.C_alloc ?_ _) | (with_reducible refine Kd.C_drewN ?_ _) | (with_reducible refine Kd.C_drew ?_))); (case side2 => exact HC3.out); rintro e w22 ⟨v391, rfl, ho0, hb⟩; refine ⟨_, rfl, ?_⟩; have n0_ := Aside0.mk (Kd.R_lower ho0 (below_size bel)); have n1_ := Aside0.mk (below_step bel hb); clear HB; have HO392 := n0_; have HB := n1_; clear n0_ n1_; (try clear hb); (try clear ho0)) | ((with_reducible refine gate_dst (N := 17) rfl ?_); refine box_event ?hg (N := 17) ?hd (cs := #[.int .i64 0, .int .i64 0, .int .i64 0, .slice none 0 0]) (t := 25) ?hr ?_; (case hd => rfl); (case hg => rfl); (case hr => first | (go_simp; done) | (go_simp; rfl)); intro gb393 hg w23 hbox hb; have n0_ := Aside0.mk (Kd.R_below (kr HO392) hb); have n1_ := Aside0.mk (below_step bel hb); have n2_ := Aside0.mk (hbox); have n3_ := Aside0.mk ((by rw [hg]; exact (below_size bel) : w.heap.size ≤ gb393)); have n4_ := Aside0.mk ((by rw [hg]; exact (below_size bel) : w.heap.size ≤ gb393)); clear HO392; clear HB; have HO392 := n0_; have HB := n1_; have BK393 := n2_; have GW393 := n3_; have GE393 := n4_; clear n0_ n1_ n2_ n3_ n4_; clear hb hbox hg; have hcz24_0 : w23.cell? ⟨gb393, 0, none⟩ = some (.int .i64 0) := (blk_cell BK393.out 0).trans rfl; have hcz24_1 : w23.cell? ⟨gb393, 1, none⟩ = some (.int .i64 0) := (blk_cell BK393.out 1).trans rfl; have hcz24_2 : w23.cell? ⟨gb393, 2, none⟩ = some (.int .i64 0) := (blk_cell BK393.out 2).trans rfl; have hcz24_3 : w23.cell? ⟨gb393, 3, none⟩ = some (.slice none 0 0) := (blk_cell BK393.out 3).trans rfl; have hfz24_0 := blk_frozen BK393.out 0; have hfz24_1 := blk_frozen BK393.out 1; have hfz24_2 := blk_frozen BK393.out 2; have hfz24_3 := blk_frozen BK393.out 3; obtain ⟨Ao25, co25, eo25⟩ := Kd.R_slice HO392.out; subst eo25) | ((with_reducible refine gate_callee (f := 13) rfl ?_); refine goesL_ (some 56) rfl rfl Try.func13 (by kernel_rfl) rfl #[.agg #[.int .i64 t387, .int .i64 t388, .int .i64 t389, .slice Ao25 t390.length co25], .int .i64 (Go.bits .and .i64 a4 3), .int .i64 (Go.bits .and .i64 a5 3), .int .i64 (wrap64 (t387 - (Go.bits .and .i64 a4 3))), .int .i64 (wrap64 (t388 - (Go.bits .and .i64 a5 3)))] rfl ga ?_; (with_reducible refine (mat_Matrix_Cut.calls k t387 t388 t389 _ _ t390 (Go.bits .and .i64 a4 3) (Go.bits .and .i64 a5 3) (wrap64 (t387 - (Go.bits .and .i64 a4 3))) (wrap64 (t388 - (Go.bits .and .i64 a5 3))) t394 t395 t396 t397 t400 _ ?side1 ?side2 A14.out).mono ?_); (case side1 => refine (Kd.R_reads' (e := 30) (base := w.heap.size) (ok := fun k_ => True) (n := t390.length) (c := co25) ?_).2.2; exact (by (with_reducible repeat (first | apply Kd.R_alloc | apply Kd.R_drewN | apply Kd.R_drew)); exact (Kd.R_mono (Kd.R_far (p := ⟨gb393, 3, none⟩) (Kd.R_far (p := ⟨gb393, 2, none⟩) (Kd.R_far (p := ⟨gb393, 1, none⟩) (Kd.R_far (p := ⟨gb393, 0, none⟩) (Kd.R_types HO392.out BK393.out (by decide)) (fun _ hk => hk.2) (.int .i64 t387)) (fun _ hk => hk.2) (.int .i64 t388)) (fun _ hk => hk.2) (.int .i64 t389)) (fun _ hk => hk.2) (.slice Ao25 t390.length co25)) (fun _ h_ => h_.1)))); (case side2 => exact (Kd.R_reads' HO392.out).2.1); rintro e w26 ⟨v398, rfl, ho0, hb⟩; refine ⟨_, rfl, ?_⟩; have n0_ := Aside0.mk (Kd.R_elder' (by (with_reducible repeat (first | apply Kd.R_alloc | apply Kd.R_drewN | apply Kd.R_drew)); exact (Kd.R_mono (Kd.R_far (p := ⟨gb393, 3, none⟩) (Kd.R_far (p := ⟨gb393, 2, none⟩) (Kd.R_far (p := ⟨gb393, 1, none⟩) (Kd.R_far (p := ⟨gb393, 0, none⟩) (Kd.R_types HO392.out BK393.out (by decide)) (fun _ hk => hk.2) (.int .i64 t387)) (fun _ hk => hk.2) (.int .i64 t388)) (fun _ hk => hk.2) (.int .i64 t389)) (fun _ hk => hk.2) (.slice Ao25 t390.length co25)) (fun _ h_ => h_.1))) (Kd.R_base ho0) hb); have n1_ := Aside0.mk (Kd.R_lower (Kd.R_new' ho0 (Kd.R_lt (by (with_reducible repeat (first | apply Kd.R_alloc | apply Kd.R_drewN | apply Kd.R_drew)); exact (Kd.R_mono (Kd.R_far (p := ⟨gb393, 3, none⟩) (Kd.R_far (p := ⟨gb393, 2, none⟩) (Kd.R_far (p := ⟨gb393, 1, none⟩) (Kd.R_far (p := ⟨gb393, 0, none⟩) (Kd.R_types HO392.out BK393.out (by decide)) (fun _ hk => hk.2) (.int .i64 t387)) (fun _ hk => hk.2) (.int .i64 t388)) (fun _ hk => hk.2) (.int .i64 t389)) (fun _ hk => hk.2) (.slice Ao25 t390.length co25)) (fun _ h_ => h_.1))))) (below_size bes)); have n2_ := Aside0.mk (blk_below (g := gb393) (o := .cells #[.int .i64 t387, .int .i64 t388, .int .i64 t389, .slice Ao25 t390.length co25] 25 (0, 0)) (by (with_reducible repeat (first | refine blk_drewN ?_ _ | refine blk_drew ?_ | refine blk_alloc ?_ _)); refine blk_put (cs := #[.int .i64 t387, .int .i64 t388, .int .i64 t389, .slice none 0 0]) ?_ 3 _ rfl; (with_reducible repeat (first | refine blk_drewN ?_ _ | refine blk_drew ?_ | refine blk_alloc ?_ _)); refine blk_put (cs := #[.int .i64 t387, .int .i64 t388, .int .i64 0, .slice none 0 0]) ?_ 2 _ rfl; (with_reducible repeat (first | refine blk_drewN ?_ _ | refine blk_drew ?_ | refine blk_alloc ?_ _)); refine blk_put (cs := #[.int .i64 t387, .int .i64 0, .int .i64 0, .slice none 0 0]) ?_ 1 _ rfl; (with_reducible repeat (first | refine blk_drewN ?_ _ | refine blk_drew ?_ | refine blk_alloc ?_ _)); refine blk_put (cs := #[.int .i64 0, .int .i64 0, .int .i64 0, .slice none 0 0]) ?_ 0 _ rfl; (with_reducible repeat (first | refine blk_drewN ?_ _ | refine blk_drew ?_ | refine blk_alloc ?_ _)); exact BK393.out) hb); have n3_ := Aside0.mk (below_step bes hb); clear HO392; clear BK393; clear HB; have HO392 := n0_; have HO399 := n1_; have BK393 := n2_; have HB := n3_; clear n0_ n1_ n2_ n3_; (try clear hb); (try clear ho0)) | ((with_reducible refine gate_dst (N := 18) rfl ?_); refine box_event ?hg (N := 18) ?hd (cs := #[.int .i64 0, .int .i64 0, .int .i64 0, .slice none 0 0]) (t := 25) ?hr ?_; (case hd => rfl); (case hg => rfl); (case hr => first | (go_simp; done) | (go_simp; rfl)); intro gb401 hg w27 hbox hb; have n0_ := Aside0.mk (Kd.R_below (kr HO392) hb); have n1_ := Aside0.mk (Kd.R_below (kr HO399) hb); have n2_ := Aside0.mk (blk_below (g := gb393) (o := .cells #[.int .i64 t387, .int .i64 t388, .int .i64 t389, .slice Ao25 t390.length co25] 25 (0, 0)) (kb BK393) hb); have n3_ := Aside0.mk (below_step bes hb); have n4_ := Aside0.mk (hbox); have n5_ := Aside0.mk ((by rw [hg]; exact (below_size bes) : w.heap.size ≤ gb401)); have n6_ := Aside0.mk ((by rw [hg]; exact (below_size bes) : w.heap.size ≤ gb401)); have n7_ := Aside0.mk ((by rw [hg]; exact Nat.ne_of_lt (blk_lt (g := gb393) (o := .cells #[.int .i64 t387, .int .i64 t388, .int .i64 t389, .slice Ao25 t390.length co25] 25 (0, 0)) (kb BK393)) : gb393 ≠ gb401)); have n8_ := Aside0.mk ((by rw [hg]; exact Nat.ne_of_gt (blk_lt (g := gb393) (o := .cells #[.int .i64 t387, .int .i64 t388, .int .i64 t389, .slice Ao25 t390.length co25] 25 (0, 0)) (kb BK393)) : gb401 ≠ gb393)); clear HO392; clear HO399; clear BK393; clear HB; have HO392 := n0_; have HO399 := n1_; have BK393 := n2_; have HB := n3_; have BK401 := n4_; have GW401 := n5_; have GE401 := n6_; have NB393_401 := n7_; have NB401_393 := n8_; clear n0_ n1_ n2_ n3_ n4_ n5_ n6_ n7_ n8_; clear hb hbox hg; have hnb28 := NB401_393.out; have hnc28 := NB393_401.out; have hcz29_0 : w27.cell? ⟨gb401, 0, none⟩ = some (.int .i64 0) := (blk_cell BK401.out 0).trans rfl; have hcz29_1 : w27.cell? ⟨gb401, 1, none⟩ = some (.int .i64 0) := (blk_cell BK401.out 1).trans rfl; have hcz29_2 : w27.cell? ⟨gb401, 2, none⟩ = some (.int .i64 0) := (blk_cell BK401.out 2).trans rfl; have hcz29_3 : w27.cell? ⟨gb401, 3, none⟩ = some (.slice none 0 0) := (blk_cell BK401.out 3).trans rfl; have hfz29_0 := blk_frozen BK401.out 0; have hfz29_1 := blk_frozen BK401.out 1; have hfz29_2 := blk_frozen BK401.out 2; have hfz29_3 := blk_frozen BK401.out 3; obtain ⟨Ao30, co30, eo30⟩ := Kd.R_slice HO399.out; subst eo30) | ((with_reducible refine gate_callee (f := 13) rfl ?_); refine goesL_ (some 63) rfl rfl Try.func13 (by kernel_rfl) rfl #[.agg #[.int .i64 t394, .int .i64 t395, .int .i64 t396, .slice Ao30 t397.length co30], .int .i64 (Go.bits .and .i64 a6 3), .int .i64 (Go.bits .and .i64 a7 3), .int .i64 1, .int .i64 1] rfl ga ?_; (with_reducible refine (mat_Matrix_Cut.calls k t394 t395 t396 _ _ t397 (Go.bits .and .i64 a6 3) (Go.bits .and .i64 a7 3) 1 1 t402 t403 t404 t405 t408 _ ?side1 ?side2 A15.out).mono ?_); (case side1 => refine (Kd.R_reads' (e := 30) (base := w.heap.size) (ok := fun k_ => (True ∧ some k_ ≠ (.slice Ao25 t390.length co25 : Value).ownBlock)) (n := t397.length) (c := co30) ?_).2.2; exact (by (with_reducible repeat (first | apply Kd.R_alloc | apply Kd.R_drewN | apply Kd.R_drew)); exact (Kd.R_mono (Kd.R_far (p := ⟨gb401, 3, none⟩) (Kd.R_far (p := ⟨gb401, 2, none⟩) (Kd.R_far (p := ⟨gb401, 1, none⟩) (Kd.R_far (p := ⟨gb401, 0, none⟩) (Kd.R_types HO399.out BK401.out (by decide)) (fun _ hk => hk.2) (.int .i64 t394)) (fun _ hk => hk.2) (.int .i64 t395)) (fun _ hk => hk.2) (.int .i64 t396)) (fun _ hk => hk.2) (.slice Ao30 t397.length co30)) (fun _ h_ => h_.1)))); (case side2 => exact (Kd.R_reads' HO399.out).2.1); rintro e w31 ⟨v406, rfl, ho0, hb⟩; refine ⟨_, rfl, ?_⟩; have n0_ := Aside0.mk (Kd.R_elder' (by (with_reducible repeat (first | apply Kd.R_alloc | apply Kd.R_drewN | apply Kd.R_drew)); exact (Kd.R_mono (Kd.R_far (p := ⟨gb401, 3, none⟩) (Kd.R_far (p := ⟨gb401, 2, none⟩) (Kd.R_far (p := ⟨gb401, 1, none⟩) (Kd.R_far (p := ⟨gb401, 0, none⟩) (Kd.R_types HO392.out BK401.out (by decide)) (fun _ hk => hk.2) (.int .i64 t394)) (fun _ hk => hk.2) (.int .i64 t395)) (fun _ hk => hk.2) (.int .i64 t396)) (fun _ hk => hk.2) (.slice Ao30 t397.length co30)) (fun _ h_ => h_.1))) (Kd.R_base ho0) hb); have n1_ := Aside0.mk (Kd.R_elder' (by (with_reducible repeat (first | apply Kd.R_alloc | apply Kd.R_drewN | apply Kd.R_drew)); exact (Kd.R_mono (Kd.R_far (p := ⟨gb401, 3, none⟩) (Kd.R_far (p := ⟨gb401, 2, none⟩) (Kd.R_far (p := ⟨gb401, 1, none⟩) (Kd.R_far (p := ⟨gb401, 0, none⟩) (Kd.R_types HO399.out BK401.out (by decide)) (fun _ hk => hk.2) (.int .i64 t394)) (fun _ hk => hk.2) (.int .i64 t395)) (fun _ hk => hk.2) (.int .i64 t396)) (fun _ hk => hk.2) (.slice Ao30 t397.length co30)) (fun _ h_ => h_.1))) (Kd.R_base ho0) hb); have n2_ := Aside0.mk (Kd.R_lower (Kd.R_new' (Kd.R_new' ho0 (Kd.R_lt (by (with_reducible repeat (first | apply Kd.R_alloc | apply Kd.R_drewN | apply Kd.R_drew)); exact (Kd.R_mono (Kd.R_far (p := ⟨gb401, 3, none⟩) (Kd.R_far (p := ⟨gb401, 2, none⟩) (Kd.R_far (p := ⟨gb401, 1, none⟩) (Kd.R_far (p := ⟨gb401, 0, none⟩) (Kd.R_types HO392.out BK401.out (by decide)) (fun _ hk => hk.2) (.int .i64 t394)) (fun _ hk => hk.2) (.int .i64 t395)) (fun _ hk => hk.2) (.int .i64 t396)) (fun _ hk => hk.2) (.slice Ao30 t397.length co30)) (fun _ h_ => h_.1))))) (Kd.R_lt (by (with_reducible repeat (first | apply Kd.R_alloc | apply Kd.R_drewN | apply Kd.R_drew)); exact (Kd.R_mono (Kd.R_far (p := ⟨gb401, 3, none⟩) (Kd.R_far (p := ⟨gb401, 2, none⟩) (Kd.R_far (p := ⟨gb401, 1, none⟩) (Kd.R_far (p := ⟨gb401, 0, none⟩) (Kd.R_types HO399.out BK401.out (by decide)) (fun _ hk => hk.2) (.int .i64 t394)) (fun _ hk => hk.2) (.int .i64 t395)) (fun _ hk => hk.2) (.int .i64 t396)) (fun _ hk => hk.2) (.slice Ao30 t397.length co30)) (fun _ h_ => h_.1))))) (below_size bes)); have n3_ := Aside0.mk (blk_below (g := gb393) (o := .cells #[.int .i64 t387, .int .i64 t388, .int .i64 t389, .slice Ao25 t390.length co25] 25 (0, 0)) (by (with_reducible repeat (first | refine blk_drewN ?_ _ | refine blk_drew ?_ | refine blk_alloc ?_ _)); refine blk_far ?_ NB393_401.out _; (with_reducible repeat (first | refine blk_drewN ?_ _ | refine blk_drew ?_ | refine blk_alloc ?_ _)); refine blk_far ?_ NB393_401.out _; (with_reducible repeat (first | refine blk_drewN ?_ _ | refine blk_drew ?_ | refine blk_alloc ?_ _)); refine blk_far ?_ NB393_401.out _; (with_reducible repeat (first | refine blk_drewN ?_ _ | refine blk_drew ?_ | refine blk_alloc ?_ _)); refine blk_far ?_ NB393_401.out _; (with_reducible repeat (first | refine blk_drewN ?_ _ | refine blk_drew ?_ | refine blk_alloc ?_ _)); exact BK393.out) hb); have n4_ := Aside0.mk (blk_below (g := gb401) (o := .cells #[.int .i64 t394, .int .i64 t395, .int .i64 t396, .slice Ao30 t397.length co30] 25 (0, 0)) (by (with_reducible repeat (first | refine blk_drewN ?_ _ | refine blk_drew ?_ | refine blk_alloc ?_ _)); refine blk_put (cs := #[.int .i64 t394, .int .i64 t395, .int .i64 t396, .slice none 0 0]) ?_ 3 _ rfl; (with_reducible repeat (first | refine blk_drewN ?_ _ | refine blk_drew ?_ | refine blk_alloc ?_ _)); refine blk_put (cs := #[.int .i64 t394, .int .i64 t395, .int .i64 0, .slice none 0 0]) ?_ 2 _ rfl; (with_reducible repeat (first | refine blk_drewN ?_ _ | refine blk_drew ?_ | refine blk_alloc ?_ _)); refine blk_put (cs := #[.int .i64 t394, .int .i64 0, .int .i64 0, .slice none 0 0]) ?_ 1 _ rfl; (with_reducible repeat (first | refine blk_drewN ?_ _ | refine blk_drew ?_ | refine blk_alloc ?_ _)); refine blk_put (cs := #[.int .i64 0, .int .i64 0, .int .i64 0, .slice none 0 0]) ?_ 0 _ rfl; (with_reducible repeat (first | refine blk_drewN ?_ _ | refine blk_drew ?_ | refine blk_alloc ?_ _)); exact BK401.out) hb); have n5_ := Aside0.mk (below_step bes hb); clear HO392; clear HO399; clear BK393; clear BK401; clear HB; have HO392 := n0_; have HO399 := n1_; have HO407 := n2_; have BK393 := n3_; have BK401 := n4_; have HB := n5_; clear n0_ n1_ n2_ n3_ n4_ n5_; (try clear hb); (try clear ho0)) | ((with_reducible refine gate_dst (N := 20) rfl ?_); refine box_event ?hg (N := 20) ?hd (cs := #[.int .i64 0, .int .i64 0, .int .i64 0, .slice none 0 0]) (t := 25) ?hr ?_; (case hd => rfl); (case hg => rfl); (case hr => first | (go_simp; done) | (go_simp; rfl)); intro gb409 hg w32 hbox hb; have n0_ := Aside0.mk (Kd.R_below (kr HO392) hb); have n1_ := Aside0.mk (Kd.R_below (kr HO399) hb); have n2_ := Aside0.mk (Kd.R_below (kr HO407) hb); have n3_ := Aside0.mk (blk_below (g := gb393) (o := .cells #[.int .i64 t387, .int .i64 t388, .int .i64 t389, .slice Ao25 t390.length co25] 25 (0, 0)) (kb BK393) hb); have n4_ := Aside0.mk (blk_below (g := gb401) (o := .cells #[.int .i64 t394, .int .i64 t395, .int .i64 t396, .slice Ao30 t397.length co30] 25 (0, 0)) (kb BK401) hb); have n5_ := Aside0.mk (below_step bes hb); have n6_ := Aside0.mk (hbox); have n7_ := Aside0.mk ((by rw [hg]; exact (below_size bes) : w.heap.size ≤ gb409)); have n8_ := Aside0.mk ((by rw [hg]; exact (below_size bes) : w.heap.size ≤ gb409)); have n9_ := Aside0.mk ((by rw [hg]; exact Nat.ne_of_lt (blk_lt (g := gb393) (o := .cells #[.int .i64 t387, .int .i64 t388, .int .i64 t389, .slice Ao25 t390.length co25] 25 (0, 0)) (kb BK393)) : gb393 ≠ gb409)); have n10_ := Aside0.mk ((by rw [hg]; exact Nat.ne_of_gt (blk_lt (g := gb393) (o := .cells #[.int .i64 t387, .int .i64 t388, .int .i64 t389, .slice Ao25 t390.length co25] 25 (0, 0)) (kb BK393)) : gb409 ≠ gb393)); have n11_ := Aside0.mk ((by rw [hg]; exact Nat.ne_of_lt (blk_lt (g := gb401) (o := .cells #[.int .i64 t394, .int .i64 t395, .int .i64 t396, .slice Ao30 t397.length co30] 25 (0, 0)) (kb BK401)) : gb401 ≠ gb409)); have n12_ := Aside0.mk ((by rw [hg]; exact Nat.ne_of_gt (blk_lt (g := gb401) (o := .cells #[.int .i64 t394, .int .i64 t395, .int .i64 t396, .slice Ao30 t397.length co30] 25 (0, 0)) (kb BK401)) : gb409 ≠ gb401)); clear HO392; clear HO399; clear HO407; clear BK393; clear BK401; clear HB; have HO392 := n0_; have HO399 := n1_; have HO407 := n2_; have BK393 := n3_; have BK401 := n4_; have HB := n5_; have BK409 := n6_; have GW409 := n7_; have GE409 := n8_; have NB393_409 := n9_; have NB409_393 := n10_; have NB401_409 := n11_; have NB409_401 := n12_; clear n0_ n1_ n2_ n3_ n4_ n5_ n6_ n7_ n8_ n9_ n10_ n11_ n12_; clear hb hbox hg; have hnb33 := NB409_393.out; have hnc33 := NB393_409.out; have hnb34 := NB409_401.out; have hnc34 := NB401_409.out; have hcz35_0 : w32.cell? ⟨gb409, 0, none⟩ = some (.int .i64 0) := (blk_cell BK409.out 0).trans rfl; have hcz35_1 : w32.cell? ⟨gb409, 1, none⟩ = some (.int .i64 0) := (blk_cell BK409.out 1).trans rfl; have hcz35_2 : w32.cell? ⟨gb409, 2, none⟩ = some (.int .i64 0) := (blk_cell BK409.out 2).trans rfl; have hcz35_3 : w32.cell? ⟨gb409, 3, none⟩ = some (.slice none 0 0) := (blk_cell BK409.out 3).trans rfl; have hfz35_0 := blk_frozen BK409.out 0; have hfz35_1 := blk_frozen BK409.out 1; have hfz35_2 := blk_frozen BK409.out 2; have hfz35_3 := blk_frozen BK409.out 3; obtain ⟨Ao36, co36, eo36⟩ := Kd.R_slice HO407.out; subst eo36; have hcz37_0 : w32.cell? ⟨gb393, 0, none⟩ = some (.int .i64 t387) := (blk_cell BK393.out 0).trans rfl; have hcz37_1 : w32.cell? ⟨gb393, 1, none⟩ = some (.int .i64 t388) := (blk_cell BK393.out 1).trans rfl; have hcz37_2 : w32.cell? ⟨gb393, 2, none⟩ = some (.int .i64 t389) := (blk_cell BK393.out 2).trans rfl; have hcz37_3 : w32.cell? ⟨gb393, 3, none⟩ = some (.slice Ao25 t390.length co25) := (blk_cell BK393.out 3).trans rfl; have hfz37_0 := blk_frozen BK393.out 0; have hfz37_1 := blk_frozen BK393.out 1; have hfz37_2 := blk_frozen BK393.out 2; have hfz37_3 := blk_frozen BK393.out 3) | ((with_reducible refine gate_callee (f := 13) rfl ?_); refine goesL_ (some 74) rfl rfl Try.func13 (by kernel_rfl) rfl #[.agg #[.int .i64 t387, .int .i64 t388, .int .i64 t389, .slice Ao25 t390.length co25], .int .i64 (wrap64 ((Go.bits .and .i64 a4 3) + (Go.bits .and .i64 a6 3))), .int .i64 (wrap64 ((Go.bits .and .i64 a5 3) + (Go.bits .and .i64 a7 3))), .int .i64 1, .int .i64 1] rfl ga ?_; (with_reducible refine (mat_Matrix_Cut.calls k t387 t388 t389 _ _ t390 (wrap64 ((Go.bits .and .i64 a4 3) + (Go.bits .and .i64 a6 3))) (wrap64 ((Go.bits .and .i64 a5 3) + (Go.bits .and .i64 a7 3))) 1 1 t410 t411 t412 t413 t416 _ ?side1 ?side2 A16.out).mono ?_); (case side1 => refine (Kd.R_reads' (e := 30) (base := w.heap.size) (ok := fun k_ => ((True ∧ some k_ ≠ (.slice Ao30 t397.length co30 : Value).ownBlock) ∧ some k_ ≠ (.slice Ao36 t405.length co36 : Value).ownBlock)) (n := t390.length) (c := co25) ?_).2.2; exact (by (with_reducible repeat (first | apply Kd.R_alloc | apply Kd.R_drewN | apply Kd.R_drew)); exact (Kd.R_mono (Kd.R_far (p := ⟨gb409, 3, none⟩) (Kd.R_far (p := ⟨gb409, 2, none⟩) (Kd.R_far (p := ⟨gb409, 1, none⟩) (Kd.R_far (p := ⟨gb409, 0, none⟩) (Kd.R_types HO392.out BK409.out (by decide)) (fun _ hk => hk.2) (.int .i64 t402)) (fun _ hk => hk.2) (.int .i64 t403)) (fun _ hk => hk.2) (.int .i64 t404)) (fun _ hk => hk.2) (.slice Ao36 t405.length co36)) (fun _ h_ => h_.1)))); (case side2 => exact (Kd.R_reads' HO392.out).2.1); rintro e w38 ⟨v414, rfl, ho0, hb⟩; refine ⟨_, rfl, ?_⟩; have n0_ := Aside0.mk (Kd.R_elder' (by (with_reducible repeat (first | apply Kd.R_alloc | apply Kd.R_drewN | apply Kd.R_drew)); exact (Kd.R_mono (Kd.R_far (p := ⟨gb409, 3, none⟩) (Kd.R_far (p := ⟨gb409, 2, none⟩) (Kd.R_far (p := ⟨gb409, 1, none⟩) (Kd.R_far (p := ⟨gb409, 0, none⟩) (Kd.R_types HO392.out BK409.out (by decide)) (fun _ hk => hk.2) (.int .i64 t402)) (fun _ hk => hk.2) (.int .i64 t403)) (fun _ hk => hk.2) (.int .i64 t404)) (fun _ hk => hk.2) (.slice Ao36 t405.length co36)) (fun _ h_ => h_.1))) (Kd.R_base ho0) hb); have n1_ := Aside0.mk (Kd.R_elder' (by (with_reducible repeat (first | apply Kd.R_alloc | apply Kd.R_drewN | apply Kd.R_drew)); exact (Kd.R_mono (Kd.R_far (p := ⟨gb409, 3, none⟩) (Kd.R_far (p := ⟨gb409, 2, none⟩) (Kd.R_far (p := ⟨gb409, 1, none⟩) (Kd.R_far (p := ⟨gb409, 0, none⟩) (Kd.R_types HO399.out BK409.out (by decide)) (fun _ hk => hk.2) (.int .i64 t402)) (fun _ hk => hk.2) (.int .i64 t403)) (fun _ hk => hk.2) (.int .i64 t404)) (fun _ hk => hk.2) (.slice Ao36 t405.length co36)) (fun _ h_ => h_.1))) (Kd.R_base ho0) hb); have n2_ := Aside0.mk (Kd.R_elder' (by (with_reducible repeat (first | apply Kd.R_alloc | apply Kd.R_drewN | apply Kd.R_drew)); exact (Kd.R_mono (Kd.R_far (p := ⟨gb409, 3, none⟩) (Kd.R_far (p := ⟨gb409, 2, none⟩) (Kd.R_far (p := ⟨gb409, 1, none⟩) (Kd.R_far (p := ⟨gb409, 0, none⟩) (Kd.R_types HO407.out BK409.out (by decide)) (fun _ hk => hk.2) (.int .i64 t402)) (fun _ hk => hk.2) (.int .i64 t403)) (fun _ hk => hk.2) (.int .i64 t404)) (fun _ hk => hk.2) (.slice Ao36 t405.length co36)) (fun _ h_ => h_.1))) (Kd.R_base ho0) hb); have n3_ := Aside0.mk (Kd.R_lower (Kd.R_new' (Kd.R_new' (Kd.R_new' ho0 (Kd.R_lt (by (with_reducible repeat (first | apply Kd.R_alloc | apply Kd.R_drewN | apply Kd.R_drew)); exact (Kd.R_mono (Kd.R_far (p := ⟨gb409, 3, none⟩) (Kd.R_far (p := ⟨gb409, 2, none⟩) (Kd.R_far (p := ⟨gb409, 1, none⟩) (Kd.R_far (p := ⟨gb409, 0, none⟩) (Kd.R_types HO392.out BK409.out (by decide)) (fun _ hk => hk.2) (.int .i64 t402)) (fun _ hk => hk.2) (.int .i64 t403)) (fun _ hk => hk.2) (.int .i64 t404)) (fun _ hk => hk.2) (.slice Ao36 t405.length co36)) (fun _ h_ => h_.1))))) (Kd.R_lt (by (with_reducible repeat (first | apply Kd.R_alloc | apply Kd.R_drewN | apply Kd.R_drew)); exact (Kd.R_mono (Kd.R_far (p := ⟨gb409, 3, none⟩) (Kd.R_far (p := ⟨gb409, 2, none⟩) (Kd.R_far (p := ⟨gb409, 1, none⟩) (Kd.R_far (p := ⟨gb409, 0, none⟩) (Kd.R_types HO399.out BK409.out (by decide)) (fun _ hk => hk.2) (.int .i64 t402)) (fun _ hk => hk.2) (.int .i64 t403)) (fun _ hk => hk.2) (.int .i64 t404)) (fun _ hk => hk.2) (.slice Ao36 t405.length co36)) (fun _ h_ => h_.1))))) (Kd.R_lt (by (with_reducible repeat (first | apply Kd.R_alloc | apply Kd.R_drewN | apply Kd.R_drew)); exact (Kd.R_mono (Kd.R_far (p := ⟨gb409, 3, none⟩) (Kd.R_far (p := ⟨gb409, 2, none⟩) (Kd.R_far (p := ⟨gb409, 1, none⟩) (Kd.R_far (p := ⟨gb409, 0, none⟩) (Kd.R_types HO407.out BK409.out (by decide)) (fun _ hk => hk.2) (.int .i64 t402)) (fun _ hk => hk.2) (.int .i64 t403)) (fun _ hk => hk.2) (.int .i64 t404)) (fun _ hk => hk.2) (.slice Ao36 t405.length co36)) (fun _ h_ => h_.1))))) (below_size bes)); have n4_ := Aside0.mk (blk_below (g := gb393) (o := .cells #[.int .i64 t387, .int .i64 t388, .int .i64 t389, .slice Ao25 t390.length co25] 25 (0, 0)) (by (with_reducible repeat (first | refine blk_drewN ?_ _ | refine blk_drew ?_ | refine blk_alloc ?_ _)); refine blk_far ?_ NB393_409.out _; (with_reducible repeat (first | refine blk_drewN ?_ _ | refine blk_drew ?_ | refine blk_alloc ?_ _)); refine blk_far ?_ NB393_409.out _; (with_reducible repeat (first | refine blk_drewN ?_ _ | refine blk_drew ?_ | refine blk_alloc ?_ _)); refine blk_far ?_ NB393_409.out _; (with_reducible repeat (first | refine blk_drewN ?_ _ | refine blk_drew ?_ | refine blk_alloc ?_ _)); refine blk_far ?_ NB393_409.out _; (with_reducible repeat (first | refine blk_drewN ?_ _ | refine blk_drew ?_ | refine blk_alloc ?_ _)); exact BK393.out) hb); have n5_ := Aside0.mk (blk_below (g := gb401) (o := .cells #[.int .i64 t394, .int .i64 t395, .int .i64 t396, .slice Ao30 t397.length co30] 25 (0, 0)) (by (with_reducible repeat (first | refine blk_drewN ?_ _ | refine blk_drew ?_ | refine blk_alloc ?_ _)); refine blk_far ?_ NB401_409.out _; (with_reducible repeat (first | refine blk_drewN ?_ _ | refine blk_drew ?_ | refine blk_alloc ?_ _)); refine blk_far ?_ NB401_409.out _; (with_reducible repeat (first | refine blk_drewN ?_ _ | refine blk_drew ?_ | refine blk_alloc ?_ _)); refine blk_far ?_ NB401_409.out _; (with_reducible repeat (first | refine blk_drewN ?_ _ | refine blk_drew ?_ | refine blk_alloc ?_ _)); refine blk_far ?_ NB401_409.out _; (with_reducible repeat (first | refine blk_drewN ?_ _ | refine blk_drew ?_ | refine blk_alloc ?_ _)); exact BK401.out) hb); have n6_ := Aside0.mk (blk_below (g := gb409) (o := .cells #[.int .i64 t402, .int .i64 t403, .int .i64 t404, .slice Ao36 t405.length co36] 25 (0, 0)) (by (with_reducible repeat (first | refine blk_drewN ?_ _ | refine blk_drew ?_ | refine blk_alloc ?_ _)); refine blk_put (cs := #[.int .i64 t402, .int .i64 t403, .int .i64 t404, .slice none 0 0]) ?_ 3 _ rfl; (with_reducible repeat (first | refine blk_drewN ?_ _ | refine blk_drew ?_ | refine blk_alloc ?_ _)); refine blk_put (cs := #[.int .i64 t402, .int .i64 t403, .int .i64 0, .slice none 0 0]) ?_ 2 _ rfl; (with_reducible repeat (first | refine blk_drewN ?_ _ | refine blk_drew ?_ | refine blk_alloc ?_ _)); refine blk_put (cs := #[.int .i64 t402, .int .i64 0, .int .i64 0, .slice none 0 0]) ?_ 1 _ rfl; (with_reducible repeat (first | refine blk_drewN ?_ _ | refine blk_drew ?_ | refine blk_alloc ?_ _)); refine blk_put (cs := #[.int .i64 0, .int .i64 0, .int .i64 0, .slice none 0 0]) ?_ 0 _ rfl; (with_reducible repeat (first | refine blk_drewN ?_ _ | refine blk_drew ?_ | refine blk_alloc ?_ _)); exact BK409.out) hb); have n7_ := Aside0.mk (below_step bes hb); clear HO392; clear HO399; clear HO407; clear BK393; clear BK401; clear BK409; clear HB; have HO392 := n0_; have HO399 := n1_; have HO407 := n2_; have HO415 := n3_; have BK393 := n4_; have BK401 := n5_; have BK409 := n6_; have HB := n7_; clear n0_ n1_ n2_ n3_ n4_ n5_ n6_ n7_; (try clear hb); (try clear ho0)) | ((with_reducible refine gate_dst (N := 22) rfl ?_); refine box_event ?hg (N := 22) ?hd (cs := #[.int .i64 0, .int .i64 0, .int .i64 0, .slice none 0 0]) (t := 25) ?hr ?_; (case hd => rfl); (case hg => rfl); (case hr => first | (go_simp; done) | (go_simp; rfl)); intro gb417 hg w39 hbox hb; have n0_ := Aside0.mk (Kd.R_below (kr HO392) hb); have n1_ := Aside0.mk (Kd.R_below (kr HO399) hb); have n2_ := Aside0.mk (Kd.R_below (kr HO407) hb); have n3_ := Aside0.mk (Kd.R_below (kr HO415) hb); have n4_ := Aside0.mk (blk_below (g := gb393) (o := .cells #[.int .i64 t387, .int .i64 t388, .int .i64 t389, .slice Ao25 t390.length co25] 25 (0, 0)) (kb BK393) hb); have n5_ := Aside0.mk (blk_below (g := gb401) (o := .cells #[.int .i64 t394, .int .i64 t395, .int .i64 t396, .slice Ao30 t397.length co30] 25 (0, 0)) (kb BK401) hb); have n6_ := Aside0.mk (blk_below (g := gb409) (o := .cells #[.int .i64 t402, .int .i64 t403, .int .i64 t404, .slice Ao36 t405.length co36] 25 (0, 0)) (kb BK409) hb); have n7_ := Aside0.mk (below_step bes hb); have n8_ := Aside0.mk (hbox); have n9_ := Aside0.mk ((by rw [hg]; exact (below_size bes) : w.heap.size ≤ gb417)); have n10_ := Aside0.mk ((by rw [hg]; exact (below_size bes) : w.heap.size ≤ gb417)); have n11_ := Aside0.mk ((by rw [hg]; exact Nat.ne_of_lt (blk_lt (g := gb393) (o := .cells #[.int .i64 t387, .int .i64 t388, .int .i64 t389, .slice Ao25 t390.length co25] 25 (0, 0)) (kb BK393)) : gb393 ≠ gb417)); have n12_ := Aside0.mk ((by rw [hg]; exact Nat.ne_of_gt (blk_lt (g := gb393) (o := .cells #[.int .i64 t387, .int .i64 t388, .int .i64 t389, .slice Ao25 t390.length co25] 25 (0, 0)) (kb BK393)) : gb417 ≠ gb393)); have n13_ := Aside0.mk ((by rw [hg]; exact Nat.ne_of_lt (blk_lt (g := gb401) (o := .cells #[.int .i64 t394, .int .i64 t395, .int .i64 t396, .slice Ao30 t397.length co30] 25 (0, 0)) (kb BK401)) : gb401 ≠ gb417)); have n14_ := Aside0.mk ((by rw [hg]; exact Nat.ne_of_gt (blk_lt (g := gb401) (o := .cells #[.int .i64 t394, .int .i64 t395, .int .i64 t396, .slice Ao30 t397.length co30] 25 (0, 0)) (kb BK401)) : gb417 ≠ gb401)); have n15_ := Aside0.mk ((by rw [hg]; exact Nat.ne_of_lt (blk_lt (g := gb409) (o := .cells #[.int .i64 t402, .int .i64 t403, .int .i64 t404, .slice Ao36 t405.length co36] 25 (0, 0)) (kb BK409)) : gb409 ≠ gb417)); have n16_ := Aside0.mk ((by rw [hg]; exact Nat.ne_of_gt (blk_lt (g := gb409) (o := .cells #[.int .i64 t402, .int .i64 t403, .int .i64 t404, .slice Ao36 t405.length co36] 25 (0, 0)) (kb BK409)) : gb417 ≠ gb409)); clear HO392; clear HO399; clear HO407; clear HO415; clear BK393; clear BK401; clear BK409; clear HB; have HO392 := n0_; have HO399 := n1_; have HO407 := n2_; have HO415 := n3_; have BK393 := n4_; have BK401 := n5_; have BK409 := n6_; have HB := n7_; have BK417 := n8_; have GW417 := n9_; have GE417 := n10_; have NB393_417 := n11_; have NB417_393 := n12_; have NB401_417 := n13_; have NB417_401 := n14_; have NB409_417 := n15_; have NB417_409 := n16_; clear n0_ n1_ n2_ n3_ n4_ n5_ n6_ n7_ n8_ n9_ n10_ n11_ n12_ n13_ n14_ n15_ n16_; clear hb hbox hg; have hnb40 := NB417_393.out; have hnc40 := NB393_417.out; have hnb41 := NB417_401.out; have hnc41 := NB401_417.out; have hnb42 := NB417_409.out; have hnc42 := NB409_417.out; have hcz43_0 : w39.cell? ⟨gb417, 0, none⟩ = some (.int .i64 0) := (blk_cell BK417.out 0).trans rfl; have hcz43_1 : w39.cell? ⟨gb417, 1, none⟩ = some (.int .i64 0) := (blk_cell BK417.out 1).trans rfl; have hcz43_2 : w39.cell? ⟨gb417, 2, none⟩ = some (.int .i64 0) := (blk_cell BK417.out 2).trans rfl; have hcz43_3 : w39.cell? ⟨gb417, 3, none⟩ = some (.slice none 0 0) := (blk_cell BK417.out 3).trans rfl; have hfz43_0 := blk_frozen BK417.out 0; have hfz43_1 := blk_frozen BK417.out 1; have hfz43_2 := blk_frozen BK417.out 2; have hfz43_3 := blk_frozen BK417.out 3; obtain ⟨Ao44, co44, eo44⟩ := Kd.R_slice HO415.out; subst eo44))
    have n0_ : Aside0 (Kd.R (Kd.int .u64) 30 ((((w39.setCell ⟨gb417, 0, none⟩ (.int .i64 t410)).setCell ⟨gb417, 1, none⟩ (.int .i64 t411)).setCell ⟨gb417, 2, none⟩ (.int .i64 t412)).setCell ⟨gb417, 3, none⟩ (.slice Ao44 t413.length co44)) w.heap.size (fun k_ => some k_ ≠ (.slice Ao30 t397.length co30 : Value).ownBlock ∧ some k_ ≠ (.slice Ao36 t405.length co36 : Value).ownBlock ∧ some k_ ≠ (.slice Ao44 t413.length co44 : Value).ownBlock) (.slice Ao25 t390.length co25) t390) := ⟨by (with_reducible repeat (first | apply Kd.R_alloc | apply Kd.R_drewN | apply Kd.R_drew)); exact Kd.R_mono (Kd.R_far (p := ⟨gb417, 3, none⟩) (Kd.R_far (p := ⟨gb417, 2, none⟩) (Kd.R_far (p := ⟨gb417, 1, none⟩) (Kd.R_far (p := ⟨gb417, 0, none⟩) (Kd.R_types HO392.out BK417.out (by decide)) (fun _ hk => hk.2) (.int .i64 t410)) (fun _ hk => hk.2) (.int .i64 t411)) (fun _ hk => hk.2) (.int .i64 t412)) (fun _ hk => hk.2) (.slice Ao44 t413.length co44)) (fun _ hk => ⟨hk.1.1.1.2, ⟨hk.1.1.2, hk.1.2⟩⟩)⟩
    have n1_ : Aside0 (Kd.R (Kd.int .u64) 30 ((((w39.setCell ⟨gb417, 0, none⟩ (.int .i64 t410)).setCell ⟨gb417, 1, none⟩ (.int .i64 t411)).setCell ⟨gb417, 2, none⟩ (.int .i64 t412)).setCell ⟨gb417, 3, none⟩ (.slice Ao44 t413.length co44)) w.heap.size (fun k_ => some k_ ≠ (.slice Ao25 t390.length co25 : Value).ownBlock ∧ some k_ ≠ (.slice Ao36 t405.length co36 : Value).ownBlock ∧ some k_ ≠ (.slice Ao44 t413.length co44 : Value).ownBlock) (.slice Ao30 t397.length co30) t397) := ⟨by (with_reducible repeat (first | apply Kd.R_alloc | apply Kd.R_drewN | apply Kd.R_drew)); exact Kd.R_mono (Kd.R_far (p := ⟨gb417, 3, none⟩) (Kd.R_far (p := ⟨gb417, 2, none⟩) (Kd.R_far (p := ⟨gb417, 1, none⟩) (Kd.R_far (p := ⟨gb417, 0, none⟩) (Kd.R_types HO399.out BK417.out (by decide)) (fun _ hk => hk.2) (.int .i64 t410)) (fun _ hk => hk.2) (.int .i64 t411)) (fun _ hk => hk.2) (.int .i64 t412)) (fun _ hk => hk.2) (.slice Ao44 t413.length co44)) (fun _ hk => ⟨hk.1.1.1.2, ⟨hk.1.1.2, hk.1.2⟩⟩)⟩
    have n2_ : Aside0 (Kd.R (Kd.int .u64) 30 ((((w39.setCell ⟨gb417, 0, none⟩ (.int .i64 t410)).setCell ⟨gb417, 1, none⟩ (.int .i64 t411)).setCell ⟨gb417, 2, none⟩ (.int .i64 t412)).setCell ⟨gb417, 3, none⟩ (.slice Ao44 t413.length co44)) w.heap.size (fun k_ => some k_ ≠ (.slice Ao25 t390.length co25 : Value).ownBlock ∧ some k_ ≠ (.slice Ao30 t397.length co30 : Value).ownBlock ∧ some k_ ≠ (.slice Ao44 t413.length co44 : Value).ownBlock) (.slice Ao36 t405.length co36) t405) := ⟨by (with_reducible repeat (first | apply Kd.R_alloc | apply Kd.R_drewN | apply Kd.R_drew)); exact Kd.R_mono (Kd.R_far (p := ⟨gb417, 3, none⟩) (Kd.R_far (p := ⟨gb417, 2, none⟩) (Kd.R_far (p := ⟨gb417, 1, none⟩) (Kd.R_far (p := ⟨gb417, 0, none⟩) (Kd.R_types HO407.out BK417.out (by decide)) (fun _ hk => hk.2) (.int .i64 t410)) (fun _ hk => hk.2) (.int .i64 t411)) (fun _ hk => hk.2) (.int .i64 t412)) (fun _ hk => hk.2) (.slice Ao44 t413.length co44)) (fun _ hk => ⟨hk.1.1.1.2, ⟨hk.1.1.2, hk.1.2⟩⟩)⟩
    have n3_ : Aside0 (Kd.R (Kd.int .u64) 30 ((((w39.setCell ⟨gb417, 0, none⟩ (.int .i64 t410)).setCell ⟨gb417, 1, none⟩ (.int .i64 t411)).setCell ⟨gb417, 2, none⟩ (.int .i64 t412)).setCell ⟨gb417, 3, none⟩ (.slice Ao44 t413.length co44)) w.heap.size (fun k_ => some k_ ≠ (.slice Ao25 t390.length co25 : Value).ownBlock ∧ some k_ ≠ (.slice Ao30 t397.length co30 : Value).ownBlock ∧ some k_ ≠ (.slice Ao36 t405.length co36 : Value).ownBlock) (.slice Ao44 t413.length co44) t413) := ⟨by (with_reducible repeat (first | apply Kd.R_alloc | apply Kd.R_drewN | apply Kd.R_drew)); exact Kd.R_mono (Kd.R_far (p := ⟨gb417, 3, none⟩) (Kd.R_far (p := ⟨gb417, 2, none⟩) (Kd.R_far (p := ⟨gb417, 1, none⟩) (Kd.R_far (p := ⟨gb417, 0, none⟩) (Kd.R_types HO415.out BK417.out (by decide)) (fun _ hk => hk.2) (.int .i64 t410)) (fun _ hk => hk.2) (.int .i64 t411)) (fun _ hk => hk.2) (.int .i64 t412)) (fun _ hk => hk.2) (.slice Ao44 t413.length co44)) (fun _ hk => ⟨hk.1.1.1.2, ⟨hk.1.1.2, hk.1.2⟩⟩)⟩
    have n4_ : Aside0 (((((w39.setCell ⟨gb417, 0, none⟩ (.int .i64 t410)).setCell ⟨gb417, 1, none⟩ (.int .i64 t411)).setCell ⟨gb417, 2, none⟩ (.int .i64 t412)).setCell ⟨gb417, 3, none⟩ (.slice Ao44 t413.length co44)).heap[gb393]? = some (.cells #[.int .i64 t387, .int .i64 t388, .int .i64 t389, .slice Ao25 t390.length co25] 25 (0, 0))) := ⟨by (with_reducible repeat (first | refine blk_drewN ?_ _ | refine blk_drew ?_ | refine blk_alloc ?_ _)); refine blk_far ?_ NB393_417.out _; (with_reducible repeat (first | refine blk_drewN ?_ _ | refine blk_drew ?_ | refine blk_alloc ?_ _)); refine blk_far ?_ NB393_417.out _; (with_reducible repeat (first | refine blk_drewN ?_ _ | refine blk_drew ?_ | refine blk_alloc ?_ _)); refine blk_far ?_ NB393_417.out _; (with_reducible repeat (first | refine blk_drewN ?_ _ | refine blk_drew ?_ | refine blk_alloc ?_ _)); refine blk_far ?_ NB393_417.out _; (with_reducible repeat (first | refine blk_drewN ?_ _ | refine blk_drew ?_ | refine blk_alloc ?_ _)); exact BK393.out⟩
    have n5_ : Aside0 (((((w39.setCell ⟨gb417, 0, none⟩ (.int .i64 t410)).setCell ⟨gb417, 1, none⟩ (.int .i64 t411)).setCell ⟨gb417, 2, none⟩ (.int .i64 t412)).setCell ⟨gb417, 3, none⟩ (.slice Ao44 t413.length co44)).heap[gb401]? = some (.cells #[.int .i64 t394, .int .i64 t395, .int .i64 t396, .slice Ao30 t397.length co30] 25 (0, 0))) := ⟨by (with_reducible repeat (first | refine blk_drewN ?_ _ | refine blk_drew ?_ | refine blk_alloc ?_ _)); refine blk_far ?_ NB401_417.out _; (with_reducible repeat (first | refine blk_drewN ?_ _ | refine blk_drew ?_ | refine blk_alloc ?_ _)); refine blk_far ?_ NB401_417.out _; (with_reducible repeat (first | refine blk_drewN ?_ _ | refine blk_drew ?_ | refine blk_alloc ?_ _)); refine blk_far ?_ NB401_417.out _; (with_reducible repeat (first | refine blk_drewN ?_ _ | refine blk_drew ?_ | refine blk_alloc ?_ _)); refine blk_far ?_ NB401_417.out _; (with_reducible repeat (first | refine blk_drewN ?_ _ | refine blk_drew ?_ | refine blk_alloc ?_ _)); exact BK401.out⟩
    have n6_ : Aside0 (((((w39.setCell ⟨gb417, 0, none⟩ (.int .i64 t410)).setCell ⟨gb417, 1, none⟩ (.int .i64 t411)).setCell ⟨gb417, 2, none⟩ (.int .i64 t412)).setCell ⟨gb417, 3, none⟩ (.slice Ao44 t413.length co44)).heap[gb409]? = some (.cells #[.int .i64 t402, .int .i64 t403, .int .i64 t404, .slice Ao36 t405.length co36] 25 (0, 0))) := ⟨by (with_reducible repeat (first | refine blk_drewN ?_ _ | refine blk_drew ?_ | refine blk_alloc ?_ _)); refine blk_far ?_ NB409_417.out _; (with_reducible repeat (first | refine blk_drewN ?_ _ | refine blk_drew ?_ | refine blk_alloc ?_ _)); refine blk_far ?_ NB409_417.out _; (with_reducible repeat (first | refine blk_drewN ?_ _ | refine blk_drew ?_ | refine blk_alloc ?_ _)); refine blk_far ?_ NB409_417.out _; (with_reducible repeat (first | refine blk_drewN ?_ _ | refine blk_drew ?_ | refine blk_alloc ?_ _)); refine blk_far ?_ NB409_417.out _; (with_reducible repeat (first | refine blk_drewN ?_ _ | refine blk_drew ?_ | refine blk_alloc ?_ _)); exact BK409.out⟩
    have n7_ : Aside0 (((((w39.setCell ⟨gb417, 0, none⟩ (.int .i64 t410)).setCell ⟨gb417, 1, none⟩ (.int .i64 t411)).setCell ⟨gb417, 2, none⟩ (.int .i64 t412)).setCell ⟨gb417, 3, none⟩ (.slice Ao44 t413.length co44)).heap[gb417]? = some (.cells #[.int .i64 t410, .int .i64 t411, .int .i64 t412, .slice Ao44 t413.length co44] 25 (0, 0))) := ⟨by (with_reducible repeat (first | refine blk_drewN ?_ _ | refine blk_drew ?_ | refine blk_alloc ?_ _)); refine blk_put (cs := #[.int .i64 t410, .int .i64 t411, .int .i64 t412, .slice none 0 0]) ?_ 3 _ rfl; (with_reducible repeat (first | refine blk_drewN ?_ _ | refine blk_drew ?_ | refine blk_alloc ?_ _)); refine blk_put (cs := #[.int .i64 t410, .int .i64 t411, .int .i64 0, .slice none 0 0]) ?_ 2 _ rfl; (with_reducible repeat (first | refine blk_drewN ?_ _ | refine blk_drew ?_ | refine blk_alloc ?_ _)); refine blk_put (cs := #[.int .i64 t410, .int .i64 0, .int .i64 0, .slice none 0 0]) ?_ 1 _ rfl; (with_reducible repeat (first | refine blk_drewN ?_ _ | refine blk_drew ?_ | refine blk_alloc ?_ _)); refine blk_put (cs := #[.int .i64 0, .int .i64 0, .int .i64 0, .slice none 0 0]) ?_ 0 _ rfl; (with_reducible repeat (first | refine blk_drewN ?_ _ | refine blk_drew ?_ | refine blk_alloc ?_ _)); exact BK417.out⟩
    have n8_ : Aside0 (Below w.heap.size w ((((w39.setCell ⟨gb417, 0, none⟩ (.int .i64 t410)).setCell ⟨gb417, 1, none⟩ (.int .i64 t411)).setCell ⟨gb417, 2, none⟩ (.int .i64 t412)).setCell ⟨gb417, 3, none⟩ (.slice Ao44 t413.length co44))) := ⟨bes⟩
    (try clear HO392)
    (try clear HO399)
    (try clear HO407)
    (try clear HO415)
    (try clear BK393)
    (try clear BK401)
    (try clear BK409)
    (try clear BK417)
    (try clear HB)
    generalize ((((w39.setCell ⟨gb417, 0, none⟩ (.int .i64 t410)).setCell ⟨gb417, 1, none⟩ (.int .i64 t411)).setCell ⟨gb417, 2, none⟩ (.int .i64 t412)).setCell ⟨gb417, 3, none⟩ (.slice Ao44 t413.length co44)) = w45 at n0_ n1_ n2_ n3_ n4_ n5_ n6_ n7_ n8_ ⊢
    have HO392 := n0_
    have HO399 := n1_
    have HO407 := n2_
    have HO415 := n3_
    have BK393 := n4_
    have BK401 := n5_
    have BK409 := n6_
    have BK417 := n7_
    have HB := n8_
    clear n0_ n1_ n2_ n3_ n4_ n5_ n6_ n7_ n8_
    have n0_ := Aside0.mk (Kd.R_drew HO392.out)
    have n1_ := Aside0.mk (Kd.R_drew HO399.out)
    have n2_ := Aside0.mk (Kd.R_drew HO407.out)
    have n3_ := Aside0.mk (Kd.R_drew HO415.out)
    have n4_ := Aside0.mk (blk_drew BK393.out)
    have n5_ := Aside0.mk (blk_drew BK401.out)
    have n6_ := Aside0.mk (blk_drew BK409.out)
    have n7_ := Aside0.mk (blk_drew BK417.out)
    have n8_ := Aside0.mk (below_drew1 HB.out)
    clear HO392
    clear HO399
    clear HO407
    clear HO415
    clear BK393
    clear BK401
    clear BK409
    clear BK417
    clear HB
    have HO392 := n0_
    have HO399 := n1_
    have HO407 := n2_
    have HO415 := n3_
    have BK393 := n4_
    have BK401 := n5_
    have BK409 := n6_
    have BK417 := n7_
    have HB := n8_
    clear n0_ n1_ n2_ n3_ n4_ n5_ n6_ n7_ n8_
    refine start_ (n := 19) (S := fun w' => w'.cell? ⟨gb393, 0, none⟩ = some (.int .i64 t387) ∧ w'.cell? ⟨gb393, 1, none⟩ = some (.int .i64 t388) ∧ w'.cell? ⟨gb393, 2, none⟩ = some (.int .i64 t389) ∧ w'.cell? ⟨gb393, 3, none⟩ = some (.slice Ao25 t390.length co25)) (ds := []) #[false, false, false, false, false, false, false, false, false, false, false, false, false, false, false, false, false, false, false] (by kernel_rfl) rfl rfl ⟨(blk_cell BK393.out 0).trans rfl, (blk_cell BK393.out 1).trans rfl, (blk_cell BK393.out 2).trans rfl, (blk_cell BK393.out 3).trans rfl⟩ (fun hHeld => ?_); refine with_tabW gimballaw09_MatParts.tab15 gimballaw09_MatParts.bits15 (fun HT_ HW_ => ?_)
    generalize w45.drew = w46 at HO392 HO399 HO407 HO415 BK393 BK401 BK409 BK417 HB hHeld ⊢
    refine pure_ (i := 2) (N := some 92) (v := ?_) (a' := ?_) #[false, false, true, false, false, false, false, false, false, false, false, false, false, false, false, false, false, false, false] rfl rfl (any_of HT_.out (by kernel_rfl)) (fun _ _ _ h => h) (Or.inl ⟨by rfl, ?_⟩) ?_ ?_
    rotate_left
    ·
     intro w'
     go_simp
     with_reducible rfl
    rotate_left
    ·
     simp only [Act.put, List.setIfInBounds_toArray, List.set_cons_zero, List.set_cons_succ, i64_w, i32_w]
     rfl
    refine pure_ (i := 3) (N := some 93) (v := ?_) (a' := ?_) #[false, false, true, true, false, false, false, false, false, false, false, false, false, false, false, false, false, false, false] rfl rfl (any_of HT_.out (by kernel_rfl)) (fun _ _ _ h => h) (Or.inl ⟨by rfl, ?_⟩) ?_ ?_
    rotate_left
    ·
     intro w'
     go_simp
     with_reducible rfl
    rotate_left
    ·
     simp only [Act.put, List.setIfInBounds_toArray, List.set_cons_zero, List.set_cons_succ, i64_w, i32_w]
     rfl
    refine pure_ (i := 4) (N := some 94) (v := ?_) (a' := ?_) #[false, false, true, true, true, false, false, false, false, false, false, false, false, false, false, false, false, false, false] rfl rfl (any_of HT_.out (by kernel_rfl)) (fun _ _ _ h => h) (Or.inl ⟨by rfl, ?_⟩) ?_ ?_
    rotate_left
    ·
     intro w'
     go_simp
     with_reducible rfl
    rotate_left
    ·
     simp only [Act.put, List.setIfInBounds_toArray, List.set_cons_zero, List.set_cons_succ, i64_w, i32_w]
     rfl
    refine pure_ (i := 6) (N := some 96) (v := ?_) (a' := ?_) #[false, false, true, true, true, false, true, false, false, false, false, false, false, false, false, false, false, false, false] rfl rfl (any_of HT_.out (by kernel_rfl)) (fun _ _ _ h => h) (Or.inl ⟨by rfl, ?_⟩) ?_ ?_
    rotate_left
    ·
     intro w'
     go_simp
     with_reducible rfl
    rotate_left
    ·
     simp only [Act.put, List.setIfInBounds_toArray, List.set_cons_zero, List.set_cons_succ, i64_w, i32_w]
     rfl
    refine pure_ (i := 8) (N := some 98) (v := ?_) (a' := ?_) #[false, false, true, true, true, false, true, false, true, false, false, false, false, false, false, false, false, false, false] rfl rfl (any_of HT_.out (by kernel_rfl)) (fun _ _ _ h => h) (Or.inl ⟨by rfl, ?_⟩) ?_ ?_
    rotate_left
    ·
     intro w'
     go_simp
     with_reducible rfl
    rotate_left
    ·
     simp only [Act.put, List.setIfInBounds_toArray, List.set_cons_zero, List.set_cons_succ, i64_w, i32_w]
     rfl
    refine pure_ (i := 10) (N := some 100) (v := ?_) (a' := ?_) #[false, false, true, true, true, false, true, false, true, false, true, false, false, false, false, false, false, false, false] rfl rfl (any_of HT_.out (by kernel_rfl)) (fun _ _ _ h => h) (Or.inl ⟨by rfl, ?_⟩) ?_ ?_
    rotate_left
    ·
     intro w'
     go_simp
     with_reducible rfl
    rotate_left
    ·
     simp only [Act.put, List.setIfInBounds_toArray, List.set_cons_zero, List.set_cons_succ, i64_w, i32_w]
     rfl
    refine take_ (i := 0) (N := some 90) (v := ?_) (a' := ?_) #[true, false, true, true, true, false, true, false, true, false, true, false, false, false, false, false, false, false, false] rfl rfl (take_ofW HT_.out HW_.out (by kernel_rfl)) (fun _ _ _ h => h) (Or.inl ⟨by rfl, ?_⟩) hHeld ?_ ?_
    rotate_left
    ·
     rintro w' ⟨s0, s1, s2, s3⟩
     go_simp
     with_reducible rfl
    rotate_left
    ·
     simp only [Act.put, List.setIfInBounds_toArray, List.set_cons_zero, List.set_cons_succ, i64_w, i32_w]
     rfl
    refine take_ (i := 5) (N := some 95) (v := ?_) (a' := ?_) #[true, false, true, true, true, true, true, false, true, false, true, false, false, false, false, false, false, false, false] rfl rfl (take_ofW HT_.out HW_.out (by kernel_rfl)) (fun _ _ _ h => h) (Or.inl ⟨by rfl, ?_⟩) hHeld ?_ ?_
    rotate_left
    ·
     rintro w' ⟨s0, s1, s2, s3⟩
     go_simp
     with_reducible rfl
    rotate_left
    ·
     simp only [Act.put, List.setIfInBounds_toArray, List.set_cons_zero, List.set_cons_succ, i64_w, i32_w]
     rfl
    refine pure_ (i := 7) (N := some 97) (v := ?_) (a' := ?_) #[true, false, true, true, true, true, true, true, true, false, true, false, false, false, false, false, false, false, false] rfl rfl (any_of HT_.out (by kernel_rfl)) (fun _ _ _ h => h) (Or.inl ⟨by rfl, ?_⟩) ?_ ?_
    rotate_left
    ·
     intro w'
     go_simp
     with_reducible rfl
    rotate_left
    ·
     simp only [Act.put, List.setIfInBounds_toArray, List.set_cons_zero, List.set_cons_succ, i64_w, i32_w]
     rfl
    refine take_ (i := 9) (N := some 99) (v := ?_) (a' := ?_) #[true, false, true, true, true, true, true, true, true, true, true, false, false, false, false, false, false, false, false] rfl rfl (take_ofW HT_.out HW_.out (by kernel_rfl)) (fun _ _ _ h => h) (Or.inl ⟨by rfl, ?_⟩) hHeld ?_ ?_
    rotate_left
    ·
     rintro w' ⟨s0, s1, s2, s3⟩
     go_simp
     with_reducible rfl
    rotate_left
    ·
     simp only [Act.put, List.setIfInBounds_toArray, List.set_cons_zero, List.set_cons_succ, i64_w, i32_w]
     rfl
    refine pure_ (i := 11) (N := some 101) (v := ?_) (a' := ?_) #[true, false, true, true, true, true, true, true, true, true, true, true, false, false, false, false, false, false, false] rfl rfl (any_of HT_.out (by kernel_rfl)) (fun _ _ _ h => h) (Or.inl ⟨by rfl, ?_⟩) ?_ ?_
    rotate_left
    ·
     intro w'
     go_simp
     with_reducible rfl
    rotate_left
    ·
     simp only [Act.put, List.setIfInBounds_toArray, List.set_cons_zero, List.set_cons_succ, i64_w, i32_w]
     rfl
    refine join_ (σ := Value × Value × Nat) 2 #[true, true, true, true, true, true, true, true, true, true, true, true, true, true, true, true, true, false, false] (fun s_ => [(91, .agg #[.int .i64 t418, .int .i64 t419, .int .i64 t420, s_.1]), (102, .tuple #[.agg #[.int .i64 t424, .int .i64 t425, .int .i64 t426, s_.2.1], .int .i64 t430]), (24, .pointer (some ⟨s_.2.2, 0, none⟩)), (89, .tuple #[.agg #[.int .i64 t424, .int .i64 t425, .int .i64 t426, s_.2.1], .int .i64 t430]), (103, .agg #[.int .i64 t424, .int .i64 t425, .int .i64 t426, s_.2.1]), (104, .int .i64 t430)]) (fun s_ w' => (w'.cell? ⟨gb393, 0, none⟩ = some (.int .i64 t387) ∧ w'.cell? ⟨gb393, 1, none⟩ = some (.int .i64 t388) ∧ w'.cell? ⟨gb393, 2, none⟩ = some (.int .i64 t389) ∧ w'.cell? ⟨gb393, 3, none⟩ = some (.slice Ao25 t390.length co25)) ∧ (Kd.R (Kd.int .u64) 30 w' w.heap.size (fun k_ => some k_ ≠ (.slice Ao30 t397.length co30 : Value).ownBlock ∧ some k_ ≠ (.slice Ao36 t405.length co36 : Value).ownBlock ∧ some k_ ≠ (.slice Ao44 t413.length co44 : Value).ownBlock ∧ some k_ ≠ (s_.1 : Value).ownBlock ∧ some k_ ≠ (s_.2.1 : Value).ownBlock) (.slice Ao25 t390.length co25) t390) ∧ (Kd.R (Kd.int .u64) 30 w' w.heap.size (fun k_ => some k_ ≠ (.slice Ao25 t390.length co25 : Value).ownBlock ∧ some k_ ≠ (.slice Ao36 t405.length co36 : Value).ownBlock ∧ some k_ ≠ (.slice Ao44 t413.length co44 : Value).ownBlock ∧ some k_ ≠ (s_.1 : Value).ownBlock ∧ some k_ ≠ (s_.2.1 : Value).ownBlock) (.slice Ao30 t397.length co30) t397) ∧ (Kd.R (Kd.int .u64) 30 w' w.heap.size (fun k_ => some k_ ≠ (.slice Ao25 t390.length co25 : Value).ownBlock ∧ some k_ ≠ (.slice Ao30 t397.length co30 : Value).ownBlock ∧ some k_ ≠ (.slice Ao44 t413.length co44 : Value).ownBlock ∧ some k_ ≠ (s_.1 : Value).ownBlock ∧ some k_ ≠ (s_.2.1 : Value).ownBlock) (.slice Ao36 t405.length co36) t405) ∧ (Kd.R (Kd.int .u64) 30 w' w.heap.size (fun k_ => some k_ ≠ (.slice Ao25 t390.length co25 : Value).ownBlock ∧ some k_ ≠ (.slice Ao30 t397.length co30 : Value).ownBlock ∧ some k_ ≠ (.slice Ao36 t405.length co36 : Value).ownBlock ∧ some k_ ≠ (s_.1 : Value).ownBlock ∧ some k_ ≠ (s_.2.1 : Value).ownBlock) (.slice Ao44 t413.length co44) t413) ∧ (Kd.R (Kd.int .u64) 30 w' w.heap.size (fun k_ => some k_ ≠ (.slice Ao25 t390.length co25 : Value).ownBlock ∧ some k_ ≠ (.slice Ao30 t397.length co30 : Value).ownBlock ∧ some k_ ≠ (.slice Ao36 t405.length co36 : Value).ownBlock ∧ some k_ ≠ (.slice Ao44 t413.length co44 : Value).ownBlock ∧ some k_ ≠ (s_.2.1 : Value).ownBlock) s_.1 t421) ∧ (Kd.R (Kd.int .u64) 30 w' w.heap.size (fun k_ => some k_ ≠ (.slice Ao25 t390.length co25 : Value).ownBlock ∧ some k_ ≠ (.slice Ao30 t397.length co30 : Value).ownBlock ∧ some k_ ≠ (.slice Ao36 t405.length co36 : Value).ownBlock ∧ some k_ ≠ (.slice Ao44 t413.length co44 : Value).ownBlock ∧ some k_ ≠ (s_.1 : Value).ownBlock) s_.2.1 t427) ∧ (w'.heap[gb393]? = some (.cells #[.int .i64 t387, .int .i64 t388, .int .i64 t389, .slice Ao25 t390.length co25] 25 (0, 0))) ∧ (w'.heap[gb401]? = some (.cells #[.int .i64 t394, .int .i64 t395, .int .i64 t396, .slice Ao30 t397.length co30] 25 (0, 0))) ∧ (w'.heap[gb409]? = some (.cells #[.int .i64 t402, .int .i64 t403, .int .i64 t404, .slice Ao36 t405.length co36] 25 (0, 0))) ∧ (w'.heap[gb417]? = some (.cells #[.int .i64 t410, .int .i64 t411, .int .i64 t412, .slice Ao44 t413.length co44] 25 (0, 0))) ∧ (w'.heap[s_.2.2]? = some (.cells #[.int .i64 0, .int .i64 0, .int .i64 0, .slice none 0 0] 25 (0, 0))) ∧ (w.heap.size ≤ s_.2.2) ∧ (w.heap.size ≤ s_.2.2) ∧ (gb393 ≠ s_.2.2) ∧ (s_.2.2 ≠ gb393) ∧ (gb401 ≠ s_.2.2) ∧ (s_.2.2 ≠ gb401) ∧ (gb409 ≠ s_.2.2) ∧ (s_.2.2 ≠ gb409) ∧ (gb417 ≠ s_.2.2) ∧ (s_.2.2 ≠ gb417) ∧ (Below w.heap.size w w')) ?_ ?_
    rotate_left
    ·
     intro hCont
     refine two_ (i := 1) (j := 16) (Ni := some 91) (Nj := some 24) #[true, true, true, true, true, true, true, true, true, true, true, true, false, false, false, false, false, false, false] #[true, false, true, true, true, true, true, true, true, true, true, true, false, false, false, false, true, false, false] rfl rfl rfl rfl (two_of HT_.out (by kernel_rfl)) (by decide) (by decide) (fun K hK => ?_) (fun K hK => ?_)
     ·
      skip
      refine goes_ Try.func16 (by kernel_rfl) rfl #[.agg #[.int .i64 t387, .int .i64 t388, .int .i64 t389, .slice Ao25 t390.length co25]] (by rfl) rfl rfl ga ?_
      with_reducible refine (mat_Matrix_Turn.calls k t387 t388 t389 _ _ t390 t418 t419 t420 t421 _ ?side1 ?side2 A18.out).mono ?_
      (case side1 => exact ks HO392)
      (case side2 => exact (Kd.R_reads' HO392.out).2.1)
      rintro e w47 ⟨v422, rfl, ho0, hb⟩
      refine ⟨_, rfl, ?_⟩
      have n0_ := Aside0.mk (Kd.R_elder' (kr HO392) (Kd.R_base ho0) hb)
      have n1_ := Aside0.mk (Kd.R_elder' (kr HO399) (Kd.R_base ho0) hb)
      have n2_ := Aside0.mk (Kd.R_elder' (kr HO407) (Kd.R_base ho0) hb)
      have n3_ := Aside0.mk (Kd.R_elder' (kr HO415) (Kd.R_base ho0) hb)
      have n4_ := Aside0.mk (Kd.R_lower (Kd.R_new' (Kd.R_new' (Kd.R_new' (Kd.R_new' ho0 (Kd.R_lt (kr HO392))) (Kd.R_lt (kr HO399))) (Kd.R_lt (kr HO407))) (Kd.R_lt (kr HO415))) (below_size bes))
      have n5_ := Aside0.mk (blk_below (g := gb393) (o := .cells #[.int .i64 t387, .int .i64 t388, .int .i64 t389, .slice Ao25 t390.length co25] 25 (0, 0)) (kb BK393) hb)
      have n6_ := Aside0.mk (blk_below (g := gb401) (o := .cells #[.int .i64 t394, .int .i64 t395, .int .i64 t396, .slice Ao30 t397.length co30] 25 (0, 0)) (kb BK401) hb)
      have n7_ := Aside0.mk (blk_below (g := gb409) (o := .cells #[.int .i64 t402, .int .i64 t403, .int .i64 t404, .slice Ao36 t405.length co36] 25 (0, 0)) (kb BK409) hb)
      have n8_ := Aside0.mk (blk_below (g := gb417) (o := .cells #[.int .i64 t410, .int .i64 t411, .int .i64 t412, .slice Ao44 t413.length co44] 25 (0, 0)) (kb BK417) hb)
      have n9_ := Aside0.mk (below_step bes hb)
      clear HO392
      clear HO399
      clear HO407
      clear HO415
      clear BK393
      clear BK401
      clear BK409
      clear BK417
      clear HB
      have HO392 := n0_
      have HO399 := n1_
      have HO407 := n2_
      have HO415 := n3_
      have HO423 := n4_
      have BK393 := n5_
      have BK401 := n6_
      have BK409 := n7_
      have BK417 := n8_
      have HB := n9_
      clear n0_ n1_ n2_ n3_ n4_ n5_ n6_ n7_ n8_ n9_
      (try clear hb)
      (try clear hb2)
      (try clear hk)
      (try clear hi)
      (try clear ho0)
      obtain ⟨Ao48, co48, eo48⟩ := Kd.R_slice HO423.out
      (first | subst eo48 | (injection eo48 with f1_ f2_ f3_; have f4_ := f1_.symm; have f5_ := f3_.symm; clear f1_ f2_ f3_; subst f4_; subst f5_))
      refine hK.out _ _ ⟨(blk_cell BK393.out 0).trans rfl, (blk_cell BK393.out 1).trans rfl, (blk_cell BK393.out 2).trans rfl, (blk_cell BK393.out 3).trans rfl⟩ (fun hHeld => ?_)
      clear hK K
      refine norm_ (a' := ?_) ?_ ?_
      rotate_left
      ·
       show Act.put _ (some 91) _ = _
       simp only [Act.put, List.setIfInBounds_toArray, List.set_cons_zero, List.set_cons_succ, i64_w, i32_w]
       rfl
      refine two_ (i := 12) (j := 16) (Ni := some 102) (Nj := some 24) #[true, true, true, true, true, true, true, true, true, true, true, true, true, false, false, false, false, false, false] #[true, true, true, true, true, true, true, true, true, true, true, true, false, false, false, false, true, false, false] rfl rfl rfl rfl (two_of HT_.out (by kernel_rfl)) (by decide) (by decide) (fun K hK => ?_) (fun K hK => ?_)
      ·
       skip
       refine goes_ Try.func13 (by kernel_rfl) rfl #[.agg #[.int .i64 t418, .int .i64 t419, .int .i64 t420, .slice Ao48 t421.length co48], .int .i64 (Go.bits .and .i64 a5 3), .int .i64 (Go.bits .and .i64 a4 3), .int .i64 (wrap64 (t388 - (Go.bits .and .i64 a5 3))), .int .i64 (wrap64 (t387 - (Go.bits .and .i64 a4 3)))] (by rfl) rfl rfl ga ?_
       with_reducible refine (mat_Matrix_Cut.calls k t418 t419 t420 _ _ t421 (Go.bits .and .i64 a5 3) (Go.bits .and .i64 a4 3) (wrap64 (t388 - (Go.bits .and .i64 a5 3))) (wrap64 (t387 - (Go.bits .and .i64 a4 3))) t424 t425 t426 t427 t430 _ ?side1 ?side2 A19.out).mono ?_
       (case side1 => exact ks HO423)
       (case side2 => exact (Kd.R_reads' HO423.out).2.1)
       rintro e w49 ⟨v428, rfl, ho0, hb⟩
       refine ⟨_, rfl, ?_⟩
       have n0_ := Aside0.mk (Kd.R_elder' (kr HO392) (Kd.R_base ho0) hb)
       have n1_ := Aside0.mk (Kd.R_elder' (kr HO399) (Kd.R_base ho0) hb)
       have n2_ := Aside0.mk (Kd.R_elder' (kr HO407) (Kd.R_base ho0) hb)
       have n3_ := Aside0.mk (Kd.R_elder' (kr HO415) (Kd.R_base ho0) hb)
       have n4_ := Aside0.mk (Kd.R_elder' (kr HO423) (Kd.R_base ho0) hb)
       have n5_ := Aside0.mk (Kd.R_lower (Kd.R_new' (Kd.R_new' (Kd.R_new' (Kd.R_new' (Kd.R_new' ho0 (Kd.R_lt (kr HO392))) (Kd.R_lt (kr HO399))) (Kd.R_lt (kr HO407))) (Kd.R_lt (kr HO415))) (Kd.R_lt (kr HO423))) (below_size bes))
       have n6_ := Aside0.mk (blk_below (g := gb393) (o := .cells #[.int .i64 t387, .int .i64 t388, .int .i64 t389, .slice Ao25 t390.length co25] 25 (0, 0)) (kb BK393) hb)
       have n7_ := Aside0.mk (blk_below (g := gb401) (o := .cells #[.int .i64 t394, .int .i64 t395, .int .i64 t396, .slice Ao30 t397.length co30] 25 (0, 0)) (kb BK401) hb)
       have n8_ := Aside0.mk (blk_below (g := gb409) (o := .cells #[.int .i64 t402, .int .i64 t403, .int .i64 t404, .slice Ao36 t405.length co36] 25 (0, 0)) (kb BK409) hb)
       have n9_ := Aside0.mk (blk_below (g := gb417) (o := .cells #[.int .i64 t410, .int .i64 t411, .int .i64 t412, .slice Ao44 t413.length co44] 25 (0, 0)) (kb BK417) hb)
       have n10_ := Aside0.mk (below_step bes hb)
       clear HO392
       clear HO399
       clear HO407
       clear HO415
       clear HO423
       clear BK393
       clear BK401
       clear BK409
       clear BK417
       clear HB
       have HO392 := n0_
       have HO399 := n1_
       have HO407 := n2_
       have HO415 := n3_
       have HO423 := n4_
       have HO429 := n5_
       have BK393 := n6_
       have BK401 := n7_
       have BK409 := n8_
       have BK417 := n9_
       have HB := n10_
       clear n0_ n1_ n2_ n3_ n4_ n5_ n6_ n7_ n8_ n9_ n10_
       (try clear hb)
       (try clear hb2)
       (try clear hk)
       (try clear hi)
       (try clear ho0)
       refine hK.out _ _ ⟨(blk_cell BK393.out 0).trans rfl, (blk_cell BK393.out 1).trans rfl, (blk_cell BK393.out 2).trans rfl, (blk_cell BK393.out 3).trans rfl⟩ (fun hHeld => ?_)
       clear hK K
       refine norm_ (a' := ?_) ?_ ?_
       rotate_left
       ·
        show Act.put _ (some 102) _ = _
        simp only [Act.put, List.setIfInBounds_toArray, List.set_cons_zero, List.set_cons_succ, i64_w, i32_w]
        rfl
       refine pure_ (i := 13) (N := some 89) (v := ?_) (a' := ?_) #[true, true, true, true, true, true, true, true, true, true, true, true, true, true, false, false, false, false, false] rfl rfl (any_of HT_.out (by kernel_rfl)) (fun _ _ _ h => h) (Or.inl ⟨by rfl, ?_⟩) ?_ ?_
       rotate_left
       ·
        intro w'
        go_simp
        with_reducible rfl
       rotate_left
       ·
        simp only [Act.put, List.setIfInBounds_toArray, List.set_cons_zero, List.set_cons_succ, i64_w, i32_w]
        rfl
       refine pure_ (i := 14) (N := some 103) (v := ?_) (a' := ?_) #[true, true, true, true, true, true, true, true, true, true, true, true, true, true, true, false, false, false, false] rfl rfl (any_of HT_.out (by kernel_rfl)) (fun _ _ _ h => h) (Or.inl ⟨by rfl, ?_⟩) ?_ ?_
       rotate_left
       ·
        intro w'
        go_simp
        with_reducible rfl
       rotate_left
       ·
        simp only [Act.put, List.setIfInBounds_toArray, List.set_cons_zero, List.set_cons_succ, i64_w, i32_w]
        rfl
       refine pure_ (i := 15) (N := some 104) (v := ?_) (a' := ?_) #[true, true, true, true, true, true, true, true, true, true, true, true, true, true, true, true, false, false, false] rfl rfl (any_of HT_.out (by kernel_rfl)) (fun _ _ _ h => h) (Or.inl ⟨by rfl, ?_⟩) ?_ ?_
       rotate_left
       ·
        intro w'
        go_simp
        with_reducible rfl
       rotate_left
       ·
        simp only [Act.put, List.setIfInBounds_toArray, List.set_cons_zero, List.set_cons_succ, i64_w, i32_w]
        rfl
       refine one_ (i := 16) (N := some 24) #[true, true, true, true, true, true, true, true, true, true, true, true, true, true, true, true, true, false, false] rfl rfl (one_of HT_.out (by kernel_rfl)) (by decide) (fun K hK => ?_)
       refine box_step ?hg (N := 24) ?hd (cs := #[.int .i64 0, .int .i64 0, .int .i64 0, .slice none 0 0]) (t := 25) ?hr ?_; (case hd => rfl); (case hg => rfl); (case hr => first | (go_simp; done) | (go_simp; rfl))
       intro gb431 hg w50 hbox hb
       have n0_ := Aside0.mk (Kd.R_below (kr HO392) hb)
       have n1_ := Aside0.mk (Kd.R_below (kr HO399) hb)
       have n2_ := Aside0.mk (Kd.R_below (kr HO407) hb)
       have n3_ := Aside0.mk (Kd.R_below (kr HO415) hb)
       have n4_ := Aside0.mk (Kd.R_below (kr HO423) hb)
       have n5_ := Aside0.mk (Kd.R_below (kr HO429) hb)
       have n6_ := Aside0.mk (blk_below (g := gb393) (o := .cells #[.int .i64 t387, .int .i64 t388, .int .i64 t389, .slice Ao25 t390.length co25] 25 (0, 0)) (kb BK393) hb)
       have n7_ := Aside0.mk (blk_below (g := gb401) (o := .cells #[.int .i64 t394, .int .i64 t395, .int .i64 t396, .slice Ao30 t397.length co30] 25 (0, 0)) (kb BK401) hb)
       have n8_ := Aside0.mk (blk_below (g := gb409) (o := .cells #[.int .i64 t402, .int .i64 t403, .int .i64 t404, .slice Ao36 t405.length co36] 25 (0, 0)) (kb BK409) hb)
       have n9_ := Aside0.mk (blk_below (g := gb417) (o := .cells #[.int .i64 t410, .int .i64 t411, .int .i64 t412, .slice Ao44 t413.length co44] 25 (0, 0)) (kb BK417) hb)
       have n10_ := Aside0.mk (below_step bes hb)
       have n11_ := Aside0.mk (hbox)
       have n12_ := Aside0.mk ((by rw [hg]; exact (below_size bes) : w.heap.size ≤ gb431))
       have n13_ := Aside0.mk ((by rw [hg]; exact (below_size bes) : w.heap.size ≤ gb431))
       have n14_ := Aside0.mk ((by rw [hg]; exact Nat.ne_of_lt (blk_lt (g := gb393) (o := .cells #[.int .i64 t387, .int .i64 t388, .int .i64 t389, .slice Ao25 t390.length co25] 25 (0, 0)) (kb BK393)) : gb393 ≠ gb431))
       have n15_ := Aside0.mk ((by rw [hg]; exact Nat.ne_of_gt (blk_lt (g := gb393) (o := .cells #[.int .i64 t387, .int .i64 t388, .int .i64 t389, .slice Ao25 t390.length co25] 25 (0, 0)) (kb BK393)) : gb431 ≠ gb393))
       have n16_ := Aside0.mk ((by rw [hg]; exact Nat.ne_of_lt (blk_lt (g := gb401) (o := .cells #[.int .i64 t394, .int .i64 t395, .int .i64 t396, .slice Ao30 t397.length co30] 25 (0, 0)) (kb BK401)) : gb401 ≠ gb431))
       have n17_ := Aside0.mk ((by rw [hg]; exact Nat.ne_of_gt (blk_lt (g := gb401) (o := .cells #[.int .i64 t394, .int .i64 t395, .int .i64 t396, .slice Ao30 t397.length co30] 25 (0, 0)) (kb BK401)) : gb431 ≠ gb401))
       have n18_ := Aside0.mk ((by rw [hg]; exact Nat.ne_of_lt (blk_lt (g := gb409) (o := .cells #[.int .i64 t402, .int .i64 t403, .int .i64 t404, .slice Ao36 t405.length co36] 25 (0, 0)) (kb BK409)) : gb409 ≠ gb431))
       have n19_ := Aside0.mk ((by rw [hg]; exact Nat.ne_of_gt (blk_lt (g := gb409) (o := .cells #[.int .i64 t402, .int .i64 t403, .int .i64 t404, .slice Ao36 t405.length co36] 25 (0, 0)) (kb BK409)) : gb431 ≠ gb409))
       have n20_ := Aside0.mk ((by rw [hg]; exact Nat.ne_of_lt (blk_lt (g := gb417) (o := .cells #[.int .i64 t410, .int .i64 t411, .int .i64 t412, .slice Ao44 t413.length co44] 25 (0, 0)) (kb BK417)) : gb417 ≠ gb431))
       have n21_ := Aside0.mk ((by rw [hg]; exact Nat.ne_of_gt (blk_lt (g := gb417) (o := .cells #[.int .i64 t410, .int .i64 t411, .int .i64 t412, .slice Ao44 t413.length co44] 25 (0, 0)) (kb BK417)) : gb431 ≠ gb417))
       clear HO392
       clear HO399
       clear HO407
       clear HO415
       clear HO423
       clear HO429
       clear BK393
       clear BK401
       clear BK409
       clear BK417
       clear HB
       have HO392 := n0_
       have HO399 := n1_
       have HO407 := n2_
       have HO415 := n3_
       have HO423 := n4_
       have HO429 := n5_
       have BK393 := n6_
       have BK401 := n7_
       have BK409 := n8_
       have BK417 := n9_
       have HB := n10_
       have BK431 := n11_
       have GW431 := n12_
       have GE431 := n13_
       have NB393_431 := n14_
       have NB431_393 := n15_
       have NB401_431 := n16_
       have NB431_401 := n17_
       have NB409_431 := n18_
       have NB431_409 := n19_
       have NB417_431 := n20_
       have NB431_417 := n21_
       clear n0_ n1_ n2_ n3_ n4_ n5_ n6_ n7_ n8_ n9_ n10_ n11_ n12_ n13_ n14_ n15_ n16_ n17_ n18_ n19_ n20_ n21_
       clear hb hbox hg
       refine hK.out _ _ ⟨(blk_cell BK393.out 0).trans rfl, (blk_cell BK393.out 1).trans rfl, (blk_cell BK393.out 2).trans rfl, (blk_cell BK393.out 3).trans rfl⟩ (fun hHeld => ?_)
       clear hK K
       refine norm_ (a' := ?_) ?_ ?_
       rotate_left
       ·
        show Act.put _ (some 24) _ = _
        simp only [Act.put, List.setIfInBounds_toArray, List.set_cons_zero, List.set_cons_succ, i64_w, i32_w]
        rfl
       exact norm_ (by simp only [putAll, Act.put, List.setIfInBounds_toArray, List.set_cons_zero, List.set_cons_succ]) (hCont (.slice Ao48 t421.length co48, v428, gb431) _ ⟨hHeld, (by (with_reducible repeat (first | apply Kd.R_alloc | apply Kd.R_drewN | apply Kd.R_drew)); exact Kd.R_mono HO392.out (fun _ hk => ⟨hk.1.1.1, ⟨hk.1.1.2.1, ⟨hk.1.1.2.2, ⟨hk.1.2, hk.2⟩⟩⟩⟩)), (by (with_reducible repeat (first | apply Kd.R_alloc | apply Kd.R_drewN | apply Kd.R_drew)); exact Kd.R_mono HO399.out (fun _ hk => ⟨hk.1.1.1, ⟨hk.1.1.2.1, ⟨hk.1.1.2.2, ⟨hk.1.2, hk.2⟩⟩⟩⟩)), (by (with_reducible repeat (first | apply Kd.R_alloc | apply Kd.R_drewN | apply Kd.R_drew)); exact Kd.R_mono HO407.out (fun _ hk => ⟨hk.1.1.1, ⟨hk.1.1.2.1, ⟨hk.1.1.2.2, ⟨hk.1.2, hk.2⟩⟩⟩⟩)), (by (with_reducible repeat (first | apply Kd.R_alloc | apply Kd.R_drewN | apply Kd.R_drew)); exact Kd.R_mono HO415.out (fun _ hk => ⟨hk.1.1.1, ⟨hk.1.1.2.1, ⟨hk.1.1.2.2, ⟨hk.1.2, hk.2⟩⟩⟩⟩)), (by (with_reducible repeat (first | apply Kd.R_alloc | apply Kd.R_drewN | apply Kd.R_drew)); exact Kd.R_mono HO423.out (fun _ hk => ⟨hk.1.1.1.1.2, ⟨hk.1.1.1.2, ⟨hk.1.1.2, ⟨hk.1.2, hk.2⟩⟩⟩⟩)), (by (with_reducible repeat (first | apply Kd.R_alloc | apply Kd.R_drewN | apply Kd.R_drew)); exact Kd.R_mono HO429.out (fun _ hk => ⟨hk.1.1.1.1.2, ⟨hk.1.1.1.2, ⟨hk.1.1.2, ⟨hk.1.2, hk.2⟩⟩⟩⟩)), (kb BK393), (kb BK401), (kb BK409), (kb BK417), (kb BK431), GW431.out, GE431.out, NB393_431.out, NB431_393.out, NB401_431.out, NB431_401.out, NB409_431.out, NB431_409.out, NB417_431.out, NB431_417.out, bes⟩)
      ·
       skip
       refine box_step ?hg (N := 24) ?hd (cs := #[.int .i64 0, .int .i64 0, .int .i64 0, .slice none 0 0]) (t := 25) ?hr ?_; (case hd => rfl); (case hg => rfl); (case hr => first | (go_simp; done) | (go_simp; rfl))
       intro gb431 hg w48 hbox hb
       have n0_ := Aside0.mk (Kd.R_below (kr HO392) hb)
       have n1_ := Aside0.mk (Kd.R_below (kr HO399) hb)
       have n2_ := Aside0.mk (Kd.R_below (kr HO407) hb)
       have n3_ := Aside0.mk (Kd.R_below (kr HO415) hb)
       have n4_ := Aside0.mk (Kd.R_below (kr HO423) hb)
       have n5_ := Aside0.mk (blk_below (g := gb393) (o := .cells #[.int .i64 t387, .int .i64 t388, .int .i64 t389, .slice Ao25 t390.length co25] 25 (0, 0)) (kb BK393) hb)
       have n6_ := Aside0.mk (blk_below (g := gb401) (o := .cells #[.int .i64 t394, .int .i64 t395, .int .i64 t396, .slice Ao30 t397.length co30] 25 (0, 0)) (kb BK401) hb)
       have n7_ := Aside0.mk (blk_below (g := gb409) (o := .cells #[.int .i64 t402, .int .i64 t403, .int .i64 t404, .slice Ao36 t405.length co36] 25 (0, 0)) (kb BK409) hb)
       have n8_ := Aside0.mk (blk_below (g := gb417) (o := .cells #[.int .i64 t410, .int .i64 t411, .int .i64 t412, .slice Ao44 t413.length co44] 25 (0, 0)) (kb BK417) hb)
       have n9_ := Aside0.mk (below_step bes hb)
       have n10_ := Aside0.mk (hbox)
       have n11_ := Aside0.mk ((by rw [hg]; exact (below_size bes) : w.heap.size ≤ gb431))
       have n12_ := Aside0.mk ((by rw [hg]; exact (below_size bes) : w.heap.size ≤ gb431))
       have n13_ := Aside0.mk ((by rw [hg]; exact Nat.ne_of_lt (blk_lt (g := gb393) (o := .cells #[.int .i64 t387, .int .i64 t388, .int .i64 t389, .slice Ao25 t390.length co25] 25 (0, 0)) (kb BK393)) : gb393 ≠ gb431))
       have n14_ := Aside0.mk ((by rw [hg]; exact Nat.ne_of_gt (blk_lt (g := gb393) (o := .cells #[.int .i64 t387, .int .i64 t388, .int .i64 t389, .slice Ao25 t390.length co25] 25 (0, 0)) (kb BK393)) : gb431 ≠ gb393))
       have n15_ := Aside0.mk ((by rw [hg]; exact Nat.ne_of_lt (blk_lt (g := gb401) (o := .cells #[.int .i64 t394, .int .i64 t395, .int .i64 t396, .slice Ao30 t397.length co30] 25 (0, 0)) (kb BK401)) : gb401 ≠ gb431))
       have n16_ := Aside0.mk ((by rw [hg]; exact Nat.ne_of_gt (blk_lt (g := gb401) (o := .cells #[.int .i64 t394, .int .i64 t395, .int .i64 t396, .slice Ao30 t397.length co30] 25 (0, 0)) (kb BK401)) : gb431 ≠ gb401))
       have n17_ := Aside0.mk ((by rw [hg]; exact Nat.ne_of_lt (blk_lt (g := gb409) (o := .cells #[.int .i64 t402, .int .i64 t403, .int .i64 t404, .slice Ao36 t405.length co36] 25 (0, 0)) (kb BK409)) : gb409 ≠ gb431))
       have n18_ := Aside0.mk ((by rw [hg]; exact Nat.ne_of_gt (blk_lt (g := gb409) (o := .cells #[.int .i64 t402, .int .i64 t403, .int .i64 t404, .slice Ao36 t405.length co36] 25 (0, 0)) (kb BK409)) : gb431 ≠ gb409))
       have n19_ := Aside0.mk ((by rw [hg]; exact Nat.ne_of_lt (blk_lt (g := gb417) (o := .cells #[.int .i64 t410, .int .i64 t411, .int .i64 t412, .slice Ao44 t413.length co44] 25 (0, 0)) (kb BK417)) : gb417 ≠ gb431))
       have n20_ := Aside0.mk ((by rw [hg]; exact Nat.ne_of_gt (blk_lt (g := gb417) (o := .cells #[.int .i64 t410, .int .i64 t411, .int .i64 t412, .slice Ao44 t413.length co44] 25 (0, 0)) (kb BK417)) : gb431 ≠ gb417))
       clear HO392
       clear HO399
       clear HO407
       clear HO415
       clear HO423
       clear BK393
       clear BK401
       clear BK409
       clear BK417
       clear HB
       have HO392 := n0_
       have HO399 := n1_
       have HO407 := n2_
       have HO415 := n3_
       have HO423 := n4_
       have BK393 := n5_
       have BK401 := n6_
       have BK409 := n7_
       have BK417 := n8_
       have HB := n9_
       have BK431 := n10_
       have GW431 := n11_
       have GE431 := n12_
       have NB393_431 := n13_
       have NB431_393 := n14_
       have NB401_431 := n15_
       have NB431_401 := n16_
       have NB409_431 := n17_
       have NB431_409 := n18_
       have NB417_431 := n19_
       have NB431_417 := n20_
       clear n0_ n1_ n2_ n3_ n4_ n5_ n6_ n7_ n8_ n9_ n10_ n11_ n12_ n13_ n14_ n15_ n16_ n17_ n18_ n19_ n20_
       clear hb hbox hg
       obtain ⟨Ao49, co49, eo49⟩ := Kd.R_slice HO423.out
       (first | subst eo49 | (injection eo49 with f1_ f2_ f3_; have f4_ := f1_.symm; have f5_ := f3_.symm; clear f1_ f2_ f3_; subst f4_; subst f5_))
       refine hK.out _ _ ⟨(blk_cell BK393.out 0).trans rfl, (blk_cell BK393.out 1).trans rfl, (blk_cell BK393.out 2).trans rfl, (blk_cell BK393.out 3).trans rfl⟩ (fun hHeld => ?_)
       clear hK K
       refine norm_ (a' := ?_) ?_ ?_
       rotate_left
       ·
        show Act.put _ (some 24) _ = _
        simp only [Act.put, List.setIfInBounds_toArray, List.set_cons_zero, List.set_cons_succ, i64_w, i32_w]
        rfl
       refine one_ (i := 12) (N := some 102) #[true, true, true, true, true, true, true, true, true, true, true, true, true, false, false, false, true, false, false] rfl rfl (one_of HT_.out (by kernel_rfl)) (by decide) (fun K hK => ?_)
       refine goes_ Try.func13 (by kernel_rfl) rfl #[.agg #[.int .i64 t418, .int .i64 t419, .int .i64 t420, .slice Ao49 t421.length co49], .int .i64 (Go.bits .and .i64 a5 3), .int .i64 (Go.bits .and .i64 a4 3), .int .i64 (wrap64 (t388 - (Go.bits .and .i64 a5 3))), .int .i64 (wrap64 (t387 - (Go.bits .and .i64 a4 3)))] (by rfl) rfl rfl ga ?_
       with_reducible refine (mat_Matrix_Cut.calls k t418 t419 t420 _ _ t421 (Go.bits .and .i64 a5 3) (Go.bits .and .i64 a4 3) (wrap64 (t388 - (Go.bits .and .i64 a5 3))) (wrap64 (t387 - (Go.bits .and .i64 a4 3))) t424 t425 t426 t427 t430 _ ?side1 ?side2 A19.out).mono ?_
       (case side1 => exact ks HO423)
       (case side2 => exact (Kd.R_reads' HO423.out).2.1)
       rintro e w50 ⟨v428, rfl, ho0, hb⟩
       refine ⟨_, rfl, ?_⟩
       have n0_ := Aside0.mk (Kd.R_elder' (kr HO392) (Kd.R_base ho0) hb)
       have n1_ := Aside0.mk (Kd.R_elder' (kr HO399) (Kd.R_base ho0) hb)
       have n2_ := Aside0.mk (Kd.R_elder' (kr HO407) (Kd.R_base ho0) hb)
       have n3_ := Aside0.mk (Kd.R_elder' (kr HO415) (Kd.R_base ho0) hb)
       have n4_ := Aside0.mk (Kd.R_elder' (kr HO423) (Kd.R_base ho0) hb)
       have n5_ := Aside0.mk (Kd.R_lower (Kd.R_new' (Kd.R_new' (Kd.R_new' (Kd.R_new' (Kd.R_new' ho0 (Kd.R_lt (kr HO392))) (Kd.R_lt (kr HO399))) (Kd.R_lt (kr HO407))) (Kd.R_lt (kr HO415))) (Kd.R_lt (kr HO423))) (below_size bes))
       have n6_ := Aside0.mk (blk_below (g := gb393) (o := .cells #[.int .i64 t387, .int .i64 t388, .int .i64 t389, .slice Ao25 t390.length co25] 25 (0, 0)) (kb BK393) hb)
       have n7_ := Aside0.mk (blk_below (g := gb401) (o := .cells #[.int .i64 t394, .int .i64 t395, .int .i64 t396, .slice Ao30 t397.length co30] 25 (0, 0)) (kb BK401) hb)
       have n8_ := Aside0.mk (blk_below (g := gb409) (o := .cells #[.int .i64 t402, .int .i64 t403, .int .i64 t404, .slice Ao36 t405.length co36] 25 (0, 0)) (kb BK409) hb)
       have n9_ := Aside0.mk (blk_below (g := gb417) (o := .cells #[.int .i64 t410, .int .i64 t411, .int .i64 t412, .slice Ao44 t413.length co44] 25 (0, 0)) (kb BK417) hb)
       have n10_ := Aside0.mk (blk_below (g := gb431) (o := .cells #[.int .i64 0, .int .i64 0, .int .i64 0, .slice none 0 0] 25 (0, 0)) (kb BK431) hb)
       have n11_ := Aside0.mk (below_step bes hb)
       clear HO392
       clear HO399
       clear HO407
       clear HO415
       clear HO423
       clear BK393
       clear BK401
       clear BK409
       clear BK417
       clear BK431
       clear HB
       have HO392 := n0_
       have HO399 := n1_
       have HO407 := n2_
       have HO415 := n3_
       have HO423 := n4_
       have HO429 := n5_
       have BK393 := n6_
       have BK401 := n7_
       have BK409 := n8_
       have BK417 := n9_
       have BK431 := n10_
       have HB := n11_
       clear n0_ n1_ n2_ n3_ n4_ n5_ n6_ n7_ n8_ n9_ n10_ n11_
       (try clear hb)
       (try clear hb2)
       (try clear hk)
       (try clear hi)
       (try clear ho0)
       refine hK.out _ _ ⟨(blk_cell BK393.out 0).trans rfl, (blk_cell BK393.out 1).trans rfl, (blk_cell BK393.out 2).trans rfl, (blk_cell BK393.out 3).trans rfl⟩ (fun hHeld => ?_)
       clear hK K
       refine norm_ (a' := ?_) ?_ ?_
       rotate_left
       ·
        show Act.put _ (some 102) _ = _
        simp only [Act.put, List.setIfInBounds_toArray, List.set_cons_zero, List.set_cons_succ, i64_w, i32_w]
        rfl
       refine pure_ (i := 13) (N := some 89) (v := ?_) (a' := ?_) #[true, true, true, true, true, true, true, true, true, true, true, true, true, true, false, false, true, false, false] rfl rfl (any_of HT_.out (by kernel_rfl)) (fun _ _ _ h => h) (Or.inl ⟨by rfl, ?_⟩) ?_ ?_
       rotate_left
       ·
        intro w'
        go_simp
        with_reducible rfl
       rotate_left
       ·
        simp only [Act.put, List.setIfInBounds_toArray, List.set_cons_zero, List.set_cons_succ, i64_w, i32_w]
        rfl
       refine pure_ (i := 14) (N := some 103) (v := ?_) (a' := ?_) #[true, true, true, true, true, true, true, true, true, true, true, true, true, true, true, false, true, false, false] rfl rfl (any_of HT_.out (by kernel_rfl)) (fun _ _ _ h => h) (Or.inl ⟨by rfl, ?_⟩) ?_ ?_
       rotate_left
       ·
        intro w'
        go_simp
        with_reducible rfl
       rotate_left
       ·
        simp only [Act.put, List.setIfInBounds_toArray, List.set_cons_zero, List.set_cons_succ, i64_w, i32_w]
        rfl
       refine pure_ (i := 15) (N := some 104) (v := ?_) (a' := ?_) #[true, true, true, true, true, true, true, true, true, true, true, true, true, true, true, true, true, false, false] rfl rfl (any_of HT_.out (by kernel_rfl)) (fun _ _ _ h => h) (Or.inl ⟨by rfl, ?_⟩) ?_ ?_
       rotate_left
       ·
        intro w'
        go_simp
        with_reducible rfl
       rotate_left
       ·
        simp only [Act.put, List.setIfInBounds_toArray, List.set_cons_zero, List.set_cons_succ, i64_w, i32_w]
        rfl
       exact norm_ (by simp only [putAll, Act.put, List.setIfInBounds_toArray, List.set_cons_zero, List.set_cons_succ]) (hCont (.slice Ao49 t421.length co49, v428, gb431) _ ⟨hHeld, (by (with_reducible repeat (first | apply Kd.R_alloc | apply Kd.R_drewN | apply Kd.R_drew)); exact Kd.R_mono HO392.out (fun _ hk => ⟨hk.1.1.1, ⟨hk.1.1.2.1, ⟨hk.1.1.2.2, ⟨hk.1.2, hk.2⟩⟩⟩⟩)), (by (with_reducible repeat (first | apply Kd.R_alloc | apply Kd.R_drewN | apply Kd.R_drew)); exact Kd.R_mono HO399.out (fun _ hk => ⟨hk.1.1.1, ⟨hk.1.1.2.1, ⟨hk.1.1.2.2, ⟨hk.1.2, hk.2⟩⟩⟩⟩)), (by (with_reducible repeat (first | apply Kd.R_alloc | apply Kd.R_drewN | apply Kd.R_drew)); exact Kd.R_mono HO407.out (fun _ hk => ⟨hk.1.1.1, ⟨hk.1.1.2.1, ⟨hk.1.1.2.2, ⟨hk.1.2, hk.2⟩⟩⟩⟩)), (by (with_reducible repeat (first | apply Kd.R_alloc | apply Kd.R_drewN | apply Kd.R_drew)); exact Kd.R_mono HO415.out (fun _ hk => ⟨hk.1.1.1, ⟨hk.1.1.2.1, ⟨hk.1.1.2.2, ⟨hk.1.2, hk.2⟩⟩⟩⟩)), (by (with_reducible repeat (first | apply Kd.R_alloc | apply Kd.R_drewN | apply Kd.R_drew)); exact Kd.R_mono HO423.out (fun _ hk => ⟨hk.1.1.1.1.2, ⟨hk.1.1.1.2, ⟨hk.1.1.2, ⟨hk.1.2, hk.2⟩⟩⟩⟩)), (by (with_reducible repeat (first | apply Kd.R_alloc | apply Kd.R_drewN | apply Kd.R_drew)); exact Kd.R_mono HO429.out (fun _ hk => ⟨hk.1.1.1.1.2, ⟨hk.1.1.1.2, ⟨hk.1.1.2, ⟨hk.1.2, hk.2⟩⟩⟩⟩)), (kb BK393), (kb BK401), (kb BK409), (kb BK417), (kb BK431), GW431.out, GE431.out, NB393_431.out, NB431_393.out, NB401_431.out, NB431_401.out, NB409_431.out, NB431_409.out, NB417_431.out, NB431_417.out, bes⟩)
     ·
      skip
      refine box_step ?hg (N := 24) ?hd (cs := #[.int .i64 0, .int .i64 0, .int .i64 0, .slice none 0 0]) (t := 25) ?hr ?_; (case hd => rfl); (case hg => rfl); (case hr => first | (go_simp; done) | (go_simp; rfl))
      intro gb431 hg w47 hbox hb
      have n0_ := Aside0.mk (Kd.R_below (kr HO392) hb)
      have n1_ := Aside0.mk (Kd.R_below (kr HO399) hb)
      have n2_ := Aside0.mk (Kd.R_below (kr HO407) hb)
      have n3_ := Aside0.mk (Kd.R_below (kr HO415) hb)
      have n4_ := Aside0.mk (blk_below (g := gb393) (o := .cells #[.int .i64 t387, .int .i64 t388, .int .i64 t389, .slice Ao25 t390.length co25] 25 (0, 0)) (kb BK393) hb)
      have n5_ := Aside0.mk (blk_below (g := gb401) (o := .cells #[.int .i64 t394, .int .i64 t395, .int .i64 t396, .slice Ao30 t397.length co30] 25 (0, 0)) (kb BK401) hb)
      have n6_ := Aside0.mk (blk_below (g := gb409) (o := .cells #[.int .i64 t402, .int .i64 t403, .int .i64 t404, .slice Ao36 t405.length co36] 25 (0, 0)) (kb BK409) hb)
      have n7_ := Aside0.mk (blk_below (g := gb417) (o := .cells #[.int .i64 t410, .int .i64 t411, .int .i64 t412, .slice Ao44 t413.length co44] 25 (0, 0)) (kb BK417) hb)
      have n8_ := Aside0.mk (below_step bes hb)
      have n9_ := Aside0.mk (hbox)
      have n10_ := Aside0.mk ((by rw [hg]; exact (below_size bes) : w.heap.size ≤ gb431))
      have n11_ := Aside0.mk ((by rw [hg]; exact (below_size bes) : w.heap.size ≤ gb431))
      have n12_ := Aside0.mk ((by rw [hg]; exact Nat.ne_of_lt (blk_lt (g := gb393) (o := .cells #[.int .i64 t387, .int .i64 t388, .int .i64 t389, .slice Ao25 t390.length co25] 25 (0, 0)) (kb BK393)) : gb393 ≠ gb431))
      have n13_ := Aside0.mk ((by rw [hg]; exact Nat.ne_of_gt (blk_lt (g := gb393) (o := .cells #[.int .i64 t387, .int .i64 t388, .int .i64 t389, .slice Ao25 t390.length co25] 25 (0, 0)) (kb BK393)) : gb431 ≠ gb393))
      have n14_ := Aside0.mk ((by rw [hg]; exact Nat.ne_of_lt (blk_lt (g := gb401) (o := .cells #[.int .i64 t394, .int .i64 t395, .int .i64 t396, .slice Ao30 t397.length co30] 25 (0, 0)) (kb BK401)) : gb401 ≠ gb431))
      have n15_ := Aside0.mk ((by rw [hg]; exact Nat.ne_of_gt (blk_lt (g := gb401) (o := .cells #[.int .i64 t394, .int .i64 t395, .int .i64 t396, .slice Ao30 t397.length co30] 25 (0, 0)) (kb BK401)) : gb431 ≠ gb401))
      have n16_ := Aside0.mk ((by rw [hg]; exact Nat.ne_of_lt (blk_lt (g := gb409) (o := .cells #[.int .i64 t402, .int .i64 t403, .int .i64 t404, .slice Ao36 t405.length co36] 25 (0, 0)) (kb BK409)) : gb409 ≠ gb431))
      have n17_ := Aside0.mk ((by rw [hg]; exact Nat.ne_of_gt (blk_lt (g := gb409) (o := .cells #[.int .i64 t402, .int .i64 t403, .int .i64 t404, .slice Ao36 t405.length co36] 25 (0, 0)) (kb BK409)) : gb431 ≠ gb409))
      have n18_ := Aside0.mk ((by rw [hg]; exact Nat.ne_of_lt (blk_lt (g := gb417) (o := .cells #[.int .i64 t410, .int .i64 t411, .int .i64 t412, .slice Ao44 t413.length co44] 25 (0, 0)) (kb BK417)) : gb417 ≠ gb431))
      have n19_ := Aside0.mk ((by rw [hg]; exact Nat.ne_of_gt (blk_lt (g := gb417) (o := .cells #[.int .i64 t410, .int .i64 t411, .int .i64 t412, .slice Ao44 t413.length co44] 25 (0, 0)) (kb BK417)) : gb431 ≠ gb417))
      clear HO392
      clear HO399
      clear HO407
      clear HO415
      clear BK393
      clear BK401
      clear BK409
      clear BK417
      clear HB
      have HO392 := n0_
      have HO399 := n1_
      have HO407 := n2_
      have HO415 := n3_
      have BK393 := n4_
      have BK401 := n5_
      have BK409 := n6_
      have BK417 := n7_
      have HB := n8_
      have BK431 := n9_
      have GW431 := n10_
      have GE431 := n11_
      have NB393_431 := n12_
      have NB431_393 := n13_
      have NB401_431 := n14_
      have NB431_401 := n15_
      have NB409_431 := n16_
      have NB431_409 := n17_
      have NB417_431 := n18_
      have NB431_417 := n19_
      clear n0_ n1_ n2_ n3_ n4_ n5_ n6_ n7_ n8_ n9_ n10_ n11_ n12_ n13_ n14_ n15_ n16_ n17_ n18_ n19_
      clear hb hbox hg
      refine hK.out _ _ ⟨(blk_cell BK393.out 0).trans rfl, (blk_cell BK393.out 1).trans rfl, (blk_cell BK393.out 2).trans rfl, (blk_cell BK393.out 3).trans rfl⟩ (fun hHeld => ?_)
      clear hK K
      refine norm_ (a' := ?_) ?_ ?_
      rotate_left
      ·
       show Act.put _ (some 24) _ = _
       simp only [Act.put, List.setIfInBounds_toArray, List.set_cons_zero, List.set_cons_succ, i64_w, i32_w]
       rfl
      refine one_ (i := 1) (N := some 91) #[true, true, true, true, true, true, true, true, true, true, true, true, false, false, false, false, true, false, false] rfl rfl (one_of HT_.out (by kernel_rfl)) (by decide) (fun K hK => ?_)
      refine goes_ Try.func16 (by kernel_rfl) rfl #[.agg #[.int .i64 t387, .int .i64 t388, .int .i64 t389, .slice Ao25 t390.length co25]] (by rfl) rfl rfl ga ?_
      with_reducible refine (mat_Matrix_Turn.calls k t387 t388 t389 _ _ t390 t418 t419 t420 t421 _ ?side1 ?side2 A18.out).mono ?_
      (case side1 => exact ks HO392)
      (case side2 => exact (Kd.R_reads' HO392.out).2.1)
      rintro e w48 ⟨v422, rfl, ho0, hb⟩
      refine ⟨_, rfl, ?_⟩
      have n0_ := Aside0.mk (Kd.R_elder' (kr HO392) (Kd.R_base ho0) hb)
      have n1_ := Aside0.mk (Kd.R_elder' (kr HO399) (Kd.R_base ho0) hb)
      have n2_ := Aside0.mk (Kd.R_elder' (kr HO407) (Kd.R_base ho0) hb)
      have n3_ := Aside0.mk (Kd.R_elder' (kr HO415) (Kd.R_base ho0) hb)
      have n4_ := Aside0.mk (Kd.R_lower (Kd.R_new' (Kd.R_new' (Kd.R_new' (Kd.R_new' ho0 (Kd.R_lt (kr HO392))) (Kd.R_lt (kr HO399))) (Kd.R_lt (kr HO407))) (Kd.R_lt (kr HO415))) (below_size bes))
      have n5_ := Aside0.mk (blk_below (g := gb393) (o := .cells #[.int .i64 t387, .int .i64 t388, .int .i64 t389, .slice Ao25 t390.length co25] 25 (0, 0)) (kb BK393) hb)
      have n6_ := Aside0.mk (blk_below (g := gb401) (o := .cells #[.int .i64 t394, .int .i64 t395, .int .i64 t396, .slice Ao30 t397.length co30] 25 (0, 0)) (kb BK401) hb)
      have n7_ := Aside0.mk (blk_below (g := gb409) (o := .cells #[.int .i64 t402, .int .i64 t403, .int .i64 t404, .slice Ao36 t405.length co36] 25 (0, 0)) (kb BK409) hb)
      have n8_ := Aside0.mk (blk_below (g := gb417) (o := .cells #[.int .i64 t410, .int .i64 t411, .int .i64 t412, .slice Ao44 t413.length co44] 25 (0, 0)) (kb BK417) hb)
      have n9_ := Aside0.mk (blk_below (g := gb431) (o := .cells #[.int .i64 0, .int .i64 0, .int .i64 0, .slice none 0 0] 25 (0, 0)) (kb BK431) hb)
      have n10_ := Aside0.mk (below_step bes hb)
      clear HO392
      clear HO399
      clear HO407
      clear HO415
      clear BK393
      clear BK401
      clear BK409
      clear BK417
      clear BK431
      clear HB
      have HO392 := n0_
      have HO399 := n1_
      have HO407 := n2_
      have HO415 := n3_
      have HO423 := n4_
      have BK393 := n5_
      have BK401 := n6_
      have BK409 := n7_
      have BK417 := n8_
      have BK431 := n9_
      have HB := n10_
      clear n0_ n1_ n2_ n3_ n4_ n5_ n6_ n7_ n8_ n9_ n10_
      (try clear hb)
      (try clear hb2)
      (try clear hk)
      (try clear hi)
      (try clear ho0)
      obtain ⟨Ao49, co49, eo49⟩ := Kd.R_slice HO423.out
      (first | subst eo49 | (injection eo49 with f1_ f2_ f3_; have f4_ := f1_.symm; have f5_ := f3_.symm; clear f1_ f2_ f3_; subst f4_; subst f5_))
      refine hK.out _ _ ⟨(blk_cell BK393.out 0).trans rfl, (blk_cell BK393.out 1).trans rfl, (blk_cell BK393.out 2).trans rfl, (blk_cell BK393.out 3).trans rfl⟩ (fun hHeld => ?_)
      clear hK K
      refine norm_ (a' := ?_) ?_ ?_
      rotate_left
      ·
       show Act.put _ (some 91) _ = _
       simp only [Act.put, List.setIfInBounds_toArray, List.set_cons_zero, List.set_cons_succ, i64_w, i32_w]
       rfl
      refine one_ (i := 12) (N := some 102) #[true, true, true, true, true, true, true, true, true, true, true, true, true, false, false, false, true, false, false] rfl rfl (one_of HT_.out (by kernel_rfl)) (by decide) (fun K hK => ?_)
      refine goes_ Try.func13 (by kernel_rfl) rfl #[.agg #[.int .i64 t418, .int .i64 t419, .int .i64 t420, .slice Ao49 t421.length co49], .int .i64 (Go.bits .and .i64 a5 3), .int .i64 (Go.bits .and .i64 a4 3), .int .i64 (wrap64 (t388 - (Go.bits .and .i64 a5 3))), .int .i64 (wrap64 (t387 - (Go.bits .and .i64 a4 3)))] (by rfl) rfl rfl ga ?_
      with_reducible refine (mat_Matrix_Cut.calls k t418 t419 t420 _ _ t421 (Go.bits .and .i64 a5 3) (Go.bits .and .i64 a4 3) (wrap64 (t388 - (Go.bits .and .i64 a5 3))) (wrap64 (t387 - (Go.bits .and .i64 a4 3))) t424 t425 t426 t427 t430 _ ?side1 ?side2 A19.out).mono ?_
      (case side1 => exact ks HO423)
      (case side2 => exact (Kd.R_reads' HO423.out).2.1)
      rintro e w50 ⟨v428, rfl, ho0, hb⟩
      refine ⟨_, rfl, ?_⟩
      have n0_ := Aside0.mk (Kd.R_elder' (kr HO392) (Kd.R_base ho0) hb)
      have n1_ := Aside0.mk (Kd.R_elder' (kr HO399) (Kd.R_base ho0) hb)
      have n2_ := Aside0.mk (Kd.R_elder' (kr HO407) (Kd.R_base ho0) hb)
      have n3_ := Aside0.mk (Kd.R_elder' (kr HO415) (Kd.R_base ho0) hb)
      have n4_ := Aside0.mk (Kd.R_elder' (kr HO423) (Kd.R_base ho0) hb)
      have n5_ := Aside0.mk (Kd.R_lower (Kd.R_new' (Kd.R_new' (Kd.R_new' (Kd.R_new' (Kd.R_new' ho0 (Kd.R_lt (kr HO392))) (Kd.R_lt (kr HO399))) (Kd.R_lt (kr HO407))) (Kd.R_lt (kr HO415))) (Kd.R_lt (kr HO423))) (below_size bes))
      have n6_ := Aside0.mk (blk_below (g := gb393) (o := .cells #[.int .i64 t387, .int .i64 t388, .int .i64 t389, .slice Ao25 t390.length co25] 25 (0, 0)) (kb BK393) hb)
      have n7_ := Aside0.mk (blk_below (g := gb401) (o := .cells #[.int .i64 t394, .int .i64 t395, .int .i64 t396, .slice Ao30 t397.length co30] 25 (0, 0)) (kb BK401) hb)
      have n8_ := Aside0.mk (blk_below (g := gb409) (o := .cells #[.int .i64 t402, .int .i64 t403, .int .i64 t404, .slice Ao36 t405.length co36] 25 (0, 0)) (kb BK409) hb)
      have n9_ := Aside0.mk (blk_below (g := gb417) (o := .cells #[.int .i64 t410, .int .i64 t411, .int .i64 t412, .slice Ao44 t413.length co44] 25 (0, 0)) (kb BK417) hb)
      have n10_ := Aside0.mk (blk_below (g := gb431) (o := .cells #[.int .i64 0, .int .i64 0, .int .i64 0, .slice none 0 0] 25 (0, 0)) (kb BK431) hb)
      have n11_ := Aside0.mk (below_step bes hb)
      clear HO392
      clear HO399
      clear HO407
      clear HO415
      clear HO423
      clear BK393
      clear BK401
      clear BK409
      clear BK417
      clear BK431
      clear HB
      have HO392 := n0_
      have HO399 := n1_
      have HO407 := n2_
      have HO415 := n3_
      have HO423 := n4_
      have HO429 := n5_
      have BK393 := n6_
      have BK401 := n7_
      have BK409 := n8_
      have BK417 := n9_
      have BK431 := n10_
      have HB := n11_
      clear n0_ n1_ n2_ n3_ n4_ n5_ n6_ n7_ n8_ n9_ n10_ n11_
      (try clear hb)
      (try clear hb2)
      (try clear hk)
      (try clear hi)
      (try clear ho0)
      refine hK.out _ _ ⟨(blk_cell BK393.out 0).trans rfl, (blk_cell BK393.out 1).trans rfl, (blk_cell BK393.out 2).trans rfl, (blk_cell BK393.out 3).trans rfl⟩ (fun hHeld => ?_)
      clear hK K
      refine norm_ (a' := ?_) ?_ ?_
      rotate_left
      ·
       show Act.put _ (some 102) _ = _
       simp only [Act.put, List.setIfInBounds_toArray, List.set_cons_zero, List.set_cons_succ, i64_w, i32_w]
       rfl
      refine pure_ (i := 13) (N := some 89) (v := ?_) (a' := ?_) #[true, true, true, true, true, true, true, true, true, true, true, true, true, true, false, false, true, false, false] rfl rfl (any_of HT_.out (by kernel_rfl)) (fun _ _ _ h => h) (Or.inl ⟨by rfl, ?_⟩) ?_ ?_
      rotate_left
      ·
       intro w'
       go_simp
       with_reducible rfl
      rotate_left
      ·
       simp only [Act.put, List.setIfInBounds_toArray, List.set_cons_zero, List.set_cons_succ, i64_w, i32_w]
       rfl
      refine pure_ (i := 14) (N := some 103) (v := ?_) (a' := ?_) #[true, true, true, true, true, true, true, true, true, true, true, true, true, true, true, false, true, false, false] rfl rfl (any_of HT_.out (by kernel_rfl)) (fun _ _ _ h => h) (Or.inl ⟨by rfl, ?_⟩) ?_ ?_
      rotate_left
      ·
       intro w'
       go_simp
       with_reducible rfl
      rotate_left
      ·
       simp only [Act.put, List.setIfInBounds_toArray, List.set_cons_zero, List.set_cons_succ, i64_w, i32_w]
       rfl
      refine pure_ (i := 15) (N := some 104) (v := ?_) (a' := ?_) #[true, true, true, true, true, true, true, true, true, true, true, true, true, true, true, true, true, false, false] rfl rfl (any_of HT_.out (by kernel_rfl)) (fun _ _ _ h => h) (Or.inl ⟨by rfl, ?_⟩) ?_ ?_
      rotate_left
      ·
       intro w'
       go_simp
       with_reducible rfl
      rotate_left
      ·
       simp only [Act.put, List.setIfInBounds_toArray, List.set_cons_zero, List.set_cons_succ, i64_w, i32_w]
       rfl
      exact norm_ (by simp only [putAll, Act.put, List.setIfInBounds_toArray, List.set_cons_zero, List.set_cons_succ]) (hCont (.slice Ao49 t421.length co49, v428, gb431) _ ⟨hHeld, (by (with_reducible repeat (first | apply Kd.R_alloc | apply Kd.R_drewN | apply Kd.R_drew)); exact Kd.R_mono HO392.out (fun _ hk => ⟨hk.1.1.1, ⟨hk.1.1.2.1, ⟨hk.1.1.2.2, ⟨hk.1.2, hk.2⟩⟩⟩⟩)), (by (with_reducible repeat (first | apply Kd.R_alloc | apply Kd.R_drewN | apply Kd.R_drew)); exact Kd.R_mono HO399.out (fun _ hk => ⟨hk.1.1.1, ⟨hk.1.1.2.1, ⟨hk.1.1.2.2, ⟨hk.1.2, hk.2⟩⟩⟩⟩)), (by (with_reducible repeat (first | apply Kd.R_alloc | apply Kd.R_drewN | apply Kd.R_drew)); exact Kd.R_mono HO407.out (fun _ hk => ⟨hk.1.1.1, ⟨hk.1.1.2.1, ⟨hk.1.1.2.2, ⟨hk.1.2, hk.2⟩⟩⟩⟩)), (by (with_reducible repeat (first | apply Kd.R_alloc | apply Kd.R_drewN | apply Kd.R_drew)); exact Kd.R_mono HO415.out (fun _ hk => ⟨hk.1.1.1, ⟨hk.1.1.2.1, ⟨hk.1.1.2.2, ⟨hk.1.2, hk.2⟩⟩⟩⟩)), (by (with_reducible repeat (first | apply Kd.R_alloc | apply Kd.R_drewN | apply Kd.R_drew)); exact Kd.R_mono HO423.out (fun _ hk => ⟨hk.1.1.1.1.2, ⟨hk.1.1.1.2, ⟨hk.1.1.2, ⟨hk.1.2, hk.2⟩⟩⟩⟩)), (by (with_reducible repeat (first | apply Kd.R_alloc | apply Kd.R_drewN | apply Kd.R_drew)); exact Kd.R_mono HO429.out (fun _ hk => ⟨hk.1.1.1.1.2, ⟨hk.1.1.1.2, ⟨hk.1.1.2, ⟨hk.1.2, hk.2⟩⟩⟩⟩)), (kb BK393), (kb BK401), (kb BK409), (kb BK417), (kb BK431), GW431.out, GE431.out, NB393_431.out, NB431_393.out, NB401_431.out, NB431_401.out, NB409_431.out, NB431_409.out, NB417_431.out, NB431_417.out, bes⟩)
    rintro ⟨v422, v428, gb431⟩ w51 ⟨hS_, h0_, h1_, h2_, h3_, h4_, h5_, h6_, h7_, h8_, h9_, h10_, h11_, h12_, h13_, h14_, h15_, h16_, h17_, h18_, h19_, h20_, h21_⟩
    have n0_ : Aside0 (Kd.R (Kd.int .u64) 30 w51 w.heap.size (fun k_ => some k_ ≠ (.slice Ao30 t397.length co30 : Value).ownBlock ∧ some k_ ≠ (.slice Ao36 t405.length co36 : Value).ownBlock ∧ some k_ ≠ (.slice Ao44 t413.length co44 : Value).ownBlock ∧ some k_ ≠ (v422 : Value).ownBlock ∧ some k_ ≠ (v428 : Value).ownBlock) (.slice Ao25 t390.length co25) t390) := ⟨h0_⟩
    have n1_ : Aside0 (Kd.R (Kd.int .u64) 30 w51 w.heap.size (fun k_ => some k_ ≠ (.slice Ao25 t390.length co25 : Value).ownBlock ∧ some k_ ≠ (.slice Ao36 t405.length co36 : Value).ownBlock ∧ some k_ ≠ (.slice Ao44 t413.length co44 : Value).ownBlock ∧ some k_ ≠ (v422 : Value).ownBlock ∧ some k_ ≠ (v428 : Value).ownBlock) (.slice Ao30 t397.length co30) t397) := ⟨h1_⟩
    have n2_ : Aside0 (Kd.R (Kd.int .u64) 30 w51 w.heap.size (fun k_ => some k_ ≠ (.slice Ao25 t390.length co25 : Value).ownBlock ∧ some k_ ≠ (.slice Ao30 t397.length co30 : Value).ownBlock ∧ some k_ ≠ (.slice Ao44 t413.length co44 : Value).ownBlock ∧ some k_ ≠ (v422 : Value).ownBlock ∧ some k_ ≠ (v428 : Value).ownBlock) (.slice Ao36 t405.length co36) t405) := ⟨h2_⟩
    have n3_ : Aside0 (Kd.R (Kd.int .u64) 30 w51 w.heap.size (fun k_ => some k_ ≠ (.slice Ao25 t390.length co25 : Value).ownBlock ∧ some k_ ≠ (.slice Ao30 t397.length co30 : Value).ownBlock ∧ some k_ ≠ (.slice Ao36 t405.length co36 : Value).ownBlock ∧ some k_ ≠ (v422 : Value).ownBlock ∧ some k_ ≠ (v428 : Value).ownBlock) (.slice Ao44 t413.length co44) t413) := ⟨h3_⟩
    have n4_ : Aside0 (Kd.R (Kd.int .u64) 30 w51 w.heap.size (fun k_ => some k_ ≠ (.slice Ao25 t390.length co25 : Value).ownBlock ∧ some k_ ≠ (.slice Ao30 t397.length co30 : Value).ownBlock ∧ some k_ ≠ (.slice Ao36 t405.length co36 : Value).ownBlock ∧ some k_ ≠ (.slice Ao44 t413.length co44 : Value).ownBlock ∧ some k_ ≠ (v428 : Value).ownBlock) v422 t421) := ⟨h4_⟩
    have n5_ : Aside0 (Kd.R (Kd.int .u64) 30 w51 w.heap.size (fun k_ => some k_ ≠ (.slice Ao25 t390.length co25 : Value).ownBlock ∧ some k_ ≠ (.slice Ao30 t397.length co30 : Value).ownBlock ∧ some k_ ≠ (.slice Ao36 t405.length co36 : Value).ownBlock ∧ some k_ ≠ (.slice Ao44 t413.length co44 : Value).ownBlock ∧ some k_ ≠ (v422 : Value).ownBlock) v428 t427) := ⟨h5_⟩
    have n6_ : Aside0 (w51.heap[gb393]? = some (.cells #[.int .i64 t387, .int .i64 t388, .int .i64 t389, .slice Ao25 t390.length co25] 25 (0, 0))) := ⟨h6_⟩
    have n7_ : Aside0 (w51.heap[gb401]? = some (.cells #[.int .i64 t394, .int .i64 t395, .int .i64 t396, .slice Ao30 t397.length co30] 25 (0, 0))) := ⟨h7_⟩
    have n8_ : Aside0 (w51.heap[gb409]? = some (.cells #[.int .i64 t402, .int .i64 t403, .int .i64 t404, .slice Ao36 t405.length co36] 25 (0, 0))) := ⟨h8_⟩
    have n9_ : Aside0 (w51.heap[gb417]? = some (.cells #[.int .i64 t410, .int .i64 t411, .int .i64 t412, .slice Ao44 t413.length co44] 25 (0, 0))) := ⟨h9_⟩
    have n10_ : Aside0 (w51.heap[gb431]? = some (.cells #[.int .i64 0, .int .i64 0, .int .i64 0, .slice none 0 0] 25 (0, 0))) := ⟨h10_⟩
    have n11_ : Aside0 (w.heap.size ≤ gb431) := ⟨h11_⟩
    have n12_ : Aside0 (w.heap.size ≤ gb431) := ⟨h12_⟩
    have n13_ : Aside0 (gb393 ≠ gb431) := ⟨h13_⟩
    have n14_ : Aside0 (gb431 ≠ gb393) := ⟨h14_⟩
    have n15_ : Aside0 (gb401 ≠ gb431) := ⟨h15_⟩
    have n16_ : Aside0 (gb431 ≠ gb401) := ⟨h16_⟩
    have n17_ : Aside0 (gb409 ≠ gb431) := ⟨h17_⟩
    have n18_ : Aside0 (gb431 ≠ gb409) := ⟨h18_⟩
    have n19_ : Aside0 (gb417 ≠ gb431) := ⟨h19_⟩
    have n20_ : Aside0 (gb431 ≠ gb417) := ⟨h20_⟩
    have n21_ : Aside0 (Below w.heap.size w w51) := ⟨h21_⟩
    clear HO392
    clear HO399
    clear HO407
    clear HO415
    clear BK393
    clear BK401
    clear BK409
    clear BK417
    clear HB
    clear h0_ h1_ h2_ h3_ h4_ h5_ h6_ h7_ h8_ h9_ h10_ h11_ h12_ h13_ h14_ h15_ h16_ h17_ h18_ h19_ h20_ h21_
    have HO392 := n0_
    have HO399 := n1_
    have HO407 := n2_
    have HO415 := n3_
    have HO423 := n4_
    have HO429 := n5_
    have BK393 := n6_
    have BK401 := n7_
    have BK409 := n8_
    have BK417 := n9_
    have BK431 := n10_
    have GW431 := n11_
    have GE431 := n12_
    have NB393_431 := n13_
    have NB431_393 := n14_
    have NB401_431 := n15_
    have NB431_401 := n16_
    have NB409_431 := n17_
    have NB431_409 := n18_
    have NB417_431 := n19_
    have NB431_417 := n20_
    have HB := n21_
    clear n0_ n1_ n2_ n3_ n4_ n5_ n6_ n7_ n8_ n9_ n10_ n11_ n12_ n13_ n14_ n15_ n16_ n17_ n18_ n19_ n20_ n21_
    have hHeld : w51.cell? ⟨gb393, 0, none⟩ = some (.int .i64 t387) ∧ w51.cell? ⟨gb393, 1, none⟩ = some (.int .i64 t388) ∧ w51.cell? ⟨gb393, 2, none⟩ = some (.int .i64 t389) ∧ w51.cell? ⟨gb393, 3, none⟩ = some (.slice Ao25 t390.length co25) := hS_
    obtain ⟨Ao55, co55, eo55⟩ := Kd.R_slice HO429.out
    (first | subst eo55 | (injection eo55 with f1_ f2_ f3_; have f4_ := f1_.symm; have f5_ := f3_.symm; clear f1_ f2_ f3_; subst f4_; subst f5_))
    refine norm_ (a' := ?_) ?_ ?_
    rotate_left
    ·
     simp only [putAll, Act.put, List.setIfInBounds_toArray, List.set_cons_zero, List.set_cons_succ]
     rfl
    refine one_ (i := 17) (N := none) #[true, true, true, true, true, true, true, true, true, true, true, true, true, true, true, true, true, true, false] rfl rfl (one_of HT_.out (by kernel_rfl)) (by decide) (fun K hK => ?_)
    have hs52 : w51.cell? ⟨gb431, 0, none⟩ = some (.int .i64 0) := (blk_cell BK431.out 0).trans rfl
    have hfs52 := blk_frozen BK431.out 0
    have hns52_0 := NB393_431.out
    have hns52_1 := NB401_431.out
    have hns52_2 := NB409_431.out
    have hns52_3 := NB417_431.out
    have hms52_0 := NB431_393.out
    have hms52_1 := NB431_401.out
    have hms52_2 := NB431_409.out
    have hms52_3 := NB431_417.out
    have hs53 : w51.cell? ⟨gb431, 1, none⟩ = some (.int .i64 0) := (blk_cell BK431.out 1).trans rfl
    have hfs53 := blk_frozen BK431.out 1
    have hns53_0 := NB393_431.out
    have hns53_1 := NB401_431.out
    have hns53_2 := NB409_431.out
    have hns53_3 := NB417_431.out
    have hms53_0 := NB431_393.out
    have hms53_1 := NB431_401.out
    have hms53_2 := NB431_409.out
    have hms53_3 := NB431_417.out
    have hs54 : w51.cell? ⟨gb431, 2, none⟩ = some (.int .i64 0) := (blk_cell BK431.out 2).trans rfl
    have hfs54 := blk_frozen BK431.out 2
    have hns54_0 := NB393_431.out
    have hns54_1 := NB401_431.out
    have hns54_2 := NB409_431.out
    have hns54_3 := NB417_431.out
    have hms54_0 := NB431_393.out
    have hms54_1 := NB431_401.out
    have hms54_2 := NB431_409.out
    have hms54_3 := NB431_417.out
    have hs56 : w51.cell? ⟨gb431, 3, none⟩ = some (.slice none 0 0) := (blk_cell BK431.out 3).trans rfl
    have hfs56 := blk_frozen BK431.out 3
    have hns56_0 := NB393_431.out
    have hns56_1 := NB401_431.out
    have hns56_2 := NB409_431.out
    have hns56_3 := NB417_431.out
    have hms56_0 := NB431_393.out
    have hms56_1 := NB431_401.out
    have hms56_2 := NB431_409.out
    have hms56_3 := NB431_417.out
    refine skip_ (w1 := ?_) (by rfl) rfl ?_ ?_
    rotate_left
    ·
     go_simp
     rfl
    refine hK.out _ _ ⟨((cell_far (p := ⟨gb431, _, none⟩) NB393_431.out _).trans (((cell_far (p := ⟨gb431, _, none⟩) NB393_431.out _).trans (((cell_far (p := ⟨gb431, _, none⟩) NB393_431.out _).trans (((cell_far (p := ⟨gb431, _, none⟩) NB393_431.out _).trans (hHeld.1)))))))), ((cell_far (p := ⟨gb431, _, none⟩) NB393_431.out _).trans (((cell_far (p := ⟨gb431, _, none⟩) NB393_431.out _).trans (((cell_far (p := ⟨gb431, _, none⟩) NB393_431.out _).trans (((cell_far (p := ⟨gb431, _, none⟩) NB393_431.out _).trans (hHeld.2.1)))))))), ((cell_far (p := ⟨gb431, _, none⟩) NB393_431.out _).trans (((cell_far (p := ⟨gb431, _, none⟩) NB393_431.out _).trans (((cell_far (p := ⟨gb431, _, none⟩) NB393_431.out _).trans (((cell_far (p := ⟨gb431, _, none⟩) NB393_431.out _).trans (hHeld.2.2.1)))))))), ((cell_far (p := ⟨gb431, _, none⟩) NB393_431.out _).trans (((cell_far (p := ⟨gb431, _, none⟩) NB393_431.out _).trans (((cell_far (p := ⟨gb431, _, none⟩) NB393_431.out _).trans (((cell_far (p := ⟨gb431, _, none⟩) NB393_431.out _).trans (hHeld.2.2.2))))))))⟩ (fun hHeld => ?_)
    clear hK K
    refine pure_ (i := 18) (N := some 25) (v := ?_) (a' := ?_) #[true, true, true, true, true, true, true, true, true, true, true, true, true, true, true, true, true, true, true] rfl rfl (any_of HT_.out (by kernel_rfl)) (fun _ _ _ h => h) (Or.inl ⟨by rfl, ?_⟩) ?_ ?_
    rotate_left
    ·
     intro w'
     go_simp
     with_reducible rfl
    rotate_left
    ·
     simp only [Act.put, List.setIfInBounds_toArray, List.set_cons_zero, List.set_cons_succ, i64_w, i32_w]
     rfl
    refine done_ (done_of HT_.out (by kernel_rfl)) ?_
    go_upto_region 16 with (fail)
    go_cut [113] (fun v113 wc => ∃ (kq : Nat) (x113_19 : Bool), v113 = .bool x113_19 ∧ Aside0 (gimballaw09_MatParts.j0 kq t408 t416 x113_19 t402 t403 t404 t405 t410 t411 t412 t413 = some r) ∧ Aside0 (kq ≤ k) ∧ Aside0 (Kd.R (Kd.int .u64) 30 wc w.heap.size (fun k_ => some k_ ≠ ((.slice Ao30 t397.length co30) : Value).ownBlock ∧ some k_ ≠ ((.slice Ao36 t405.length co36) : Value).ownBlock ∧ some k_ ≠ ((.slice Ao44 t413.length co44) : Value).ownBlock ∧ some k_ ≠ ((.slice Ao55 t427.length co55) : Value).ownBlock) (.slice Ao25 t390.length co25) t390) ∧ Aside0 (Kd.R (Kd.int .u64) 30 wc w.heap.size (fun k_ => some k_ ≠ ((.slice Ao25 t390.length co25) : Value).ownBlock ∧ some k_ ≠ ((.slice Ao36 t405.length co36) : Value).ownBlock ∧ some k_ ≠ ((.slice Ao44 t413.length co44) : Value).ownBlock ∧ some k_ ≠ ((.slice Ao55 t427.length co55) : Value).ownBlock) (.slice Ao30 t397.length co30) t397) ∧ Aside0 (Kd.R (Kd.int .u64) 30 wc w.heap.size (fun k_ => some k_ ≠ ((.slice Ao25 t390.length co25) : Value).ownBlock ∧ some k_ ≠ ((.slice Ao30 t397.length co30) : Value).ownBlock ∧ some k_ ≠ ((.slice Ao44 t413.length co44) : Value).ownBlock ∧ some k_ ≠ ((.slice Ao55 t427.length co55) : Value).ownBlock) (.slice Ao36 t405.length co36) t405) ∧ Aside0 (Kd.R (Kd.int .u64) 30 wc w.heap.size (fun k_ => some k_ ≠ ((.slice Ao25 t390.length co25) : Value).ownBlock ∧ some k_ ≠ ((.slice Ao30 t397.length co30) : Value).ownBlock ∧ some k_ ≠ ((.slice Ao36 t405.length co36) : Value).ownBlock ∧ some k_ ≠ ((.slice Ao55 t427.length co55) : Value).ownBlock) (.slice Ao44 t413.length co44) t413) ∧ Aside0 (Kd.R (Kd.int .u64) 30 wc w.heap.size (fun k_ => some k_ ≠ ((.slice Ao25 t390.length co25) : Value).ownBlock ∧ some k_ ≠ ((.slice Ao30 t397.length co30) : Value).ownBlock ∧ some k_ ≠ ((.slice Ao36 t405.length co36) : Value).ownBlock ∧ some k_ ≠ ((.slice Ao44 t413.length co44) : Value).ownBlock) (.slice Ao55 t427.length co55) t427) ∧ Aside0 (wc.heap[gb393]? = some (.cells #[.int .i64 t387, .int .i64 t388, .int .i64 t389, (.slice Ao25 t390.length co25)] 25 (0, 0))) ∧ Aside0 (wc.heap[gb401]? = some (.cells #[.int .i64 t394, .int .i64 t395, .int .i64 t396, (.slice Ao30 t397.length co30)] 25 (0, 0))) ∧ Aside0 (wc.heap[gb409]? = some (.cells #[.int .i64 t402, .int .i64 t403, .int .i64 t404, (.slice Ao36 t405.length co36)] 25 (0, 0))) ∧ Aside0 (wc.heap[gb417]? = some (.cells #[.int .i64 t410, .int .i64 t411, .int .i64 t412, (.slice Ao44 t413.length co44)] 25 (0, 0))) ∧ Aside0 (wc.heap[gb431]? = some (.cells #[.int .i64 t424, .int .i64 t425, .int .i64 t426, (.slice Ao55 t427.length co55)] 25 (0, 0))) ∧ Aside0 (Below w.heap.size w wc))
    case first =>
     have H := HC20.out
     clear HC20
     by_cases c57 : t430 = 0
     ·
      rw [if_pos c57] at H
      have c57b0 : (t430 == 0) = true := beq_iff_eq.mpr c57
      have c57b1 : (t430 != 0) = false := bne_eq_false_iff_eq.mpr c57
      clear c57
      (first | rw [c57b0] | (simp only [i64_w, i32_w]; rw [c57b0]) | skip)
      obtain ⟨⟨t432, t433, t434, t435⟩, A580, H⟩ := Option.bind_eq_some_iff.mp H
      (try dsimp -simprocs only at H)
      have A58 := Aside0.mk A580
      clear A580
      obtain ⟨t438, A590, H⟩ := Option.bind_eq_some_iff.mp H
      (try dsimp -simprocs only at H)
      have A59 := Aside0.mk A590
      clear A590
      have H' := Aside0.mk H
      clear H
      try go_wp2
      have n0_ : Aside0 (Kd.R (Kd.int .u64) 30 ((((w51.setCell ⟨gb431, 0, none⟩ (.int .i64 t424)).setCell ⟨gb431, 1, none⟩ (.int .i64 t425)).setCell ⟨gb431, 2, none⟩ (.int .i64 t426)).setCell ⟨gb431, 3, none⟩ (.slice Ao55 t427.length co55)) w.heap.size (fun k_ => some k_ ≠ (.slice Ao30 t397.length co30 : Value).ownBlock ∧ some k_ ≠ (.slice Ao36 t405.length co36 : Value).ownBlock ∧ some k_ ≠ (.slice Ao44 t413.length co44 : Value).ownBlock ∧ some k_ ≠ (v422 : Value).ownBlock ∧ some k_ ≠ (.slice Ao55 t427.length co55 : Value).ownBlock) (.slice Ao25 t390.length co25) t390) := ⟨by (with_reducible repeat (first | apply Kd.R_alloc | apply Kd.R_drewN | apply Kd.R_drew)); exact Kd.R_mono (Kd.R_far (p := ⟨gb431, 3, none⟩) (Kd.R_far (p := ⟨gb431, 2, none⟩) (Kd.R_far (p := ⟨gb431, 1, none⟩) (Kd.R_far (p := ⟨gb431, 0, none⟩) (Kd.R_types HO392.out BK431.out (by decide)) (fun _ hk => hk.2) (.int .i64 t424)) (fun _ hk => hk.2) (.int .i64 t425)) (fun _ hk => hk.2) (.int .i64 t426)) (fun _ hk => hk.2) (.slice Ao55 t427.length co55)) (fun _ hk => ⟨hk.1.1, ⟨hk.1.2.1, ⟨hk.1.2.2.1, ⟨hk.1.2.2.2.1, hk.1.2.2.2.2⟩⟩⟩⟩)⟩
      have n1_ : Aside0 (Kd.R (Kd.int .u64) 30 ((((w51.setCell ⟨gb431, 0, none⟩ (.int .i64 t424)).setCell ⟨gb431, 1, none⟩ (.int .i64 t425)).setCell ⟨gb431, 2, none⟩ (.int .i64 t426)).setCell ⟨gb431, 3, none⟩ (.slice Ao55 t427.length co55)) w.heap.size (fun k_ => some k_ ≠ (.slice Ao25 t390.length co25 : Value).ownBlock ∧ some k_ ≠ (.slice Ao36 t405.length co36 : Value).ownBlock ∧ some k_ ≠ (.slice Ao44 t413.length co44 : Value).ownBlock ∧ some k_ ≠ (v422 : Value).ownBlock ∧ some k_ ≠ (.slice Ao55 t427.length co55 : Value).ownBlock) (.slice Ao30 t397.length co30) t397) := ⟨by (with_reducible repeat (first | apply Kd.R_alloc | apply Kd.R_drewN | apply Kd.R_drew)); exact Kd.R_mono (Kd.R_far (p := ⟨gb431, 3, none⟩) (Kd.R_far (p := ⟨gb431, 2, none⟩) (Kd.R_far (p := ⟨gb431, 1, none⟩) (Kd.R_far (p := ⟨gb431, 0, none⟩) (Kd.R_types HO399.out BK431.out (by decide)) (fun _ hk => hk.2) (.int .i64 t424)) (fun _ hk => hk.2) (.int .i64 t425)) (fun _ hk => hk.2) (.int .i64 t426)) (fun _ hk => hk.2) (.slice Ao55 t427.length co55)) (fun _ hk => ⟨hk.1.1, ⟨hk.1.2.1, ⟨hk.1.2.2.1, ⟨hk.1.2.2.2.1, hk.1.2.2.2.2⟩⟩⟩⟩)⟩
      have n2_ : Aside0 (Kd.R (Kd.int .u64) 30 ((((w51.setCell ⟨gb431, 0, none⟩ (.int .i64 t424)).setCell ⟨gb431, 1, none⟩ (.int .i64 t425)).setCell ⟨gb431, 2, none⟩ (.int .i64 t426)).setCell ⟨gb431, 3, none⟩ (.slice Ao55 t427.length co55)) w.heap.size (fun k_ => some k_ ≠ (.slice Ao25 t390.length co25 : Value).ownBlock ∧ some k_ ≠ (.slice Ao30 t397.length co30 : Value).ownBlock ∧ some k_ ≠ (.slice Ao44 t413.length co44 : Value).ownBlock ∧ some k_ ≠ (v422 : Value).ownBlock ∧ some k_ ≠ (.slice Ao55 t427.length co55 : Value).ownBlock) (.slice Ao36 t405.length co36) t405) := ⟨by (with_reducible repeat (first | apply Kd.R_alloc | apply Kd.R_drewN | apply Kd.R_drew)); exact Kd.R_mono (Kd.R_far (p := ⟨gb431, 3, none⟩) (Kd.R_far (p := ⟨gb431, 2, none⟩) (Kd.R_far (p := ⟨gb431, 1, none⟩) (Kd.R_far (p := ⟨gb431, 0, none⟩) (Kd.R_types HO407.out BK431.out (by decide)) (fun _ hk => hk.2) (.int .i64 t424)) (fun _ hk => hk.2) (.int .i64 t425)) (fun _ hk => hk.2) (.int .i64 t426)) (fun _ hk => hk.2) (.slice Ao55 t427.length co55)) (fun _ hk => ⟨hk.1.1, ⟨hk.1.2.1, ⟨hk.1.2.2.1, ⟨hk.1.2.2.2.1, hk.1.2.2.2.2⟩⟩⟩⟩)⟩
      have n3_ : Aside0 (Kd.R (Kd.int .u64) 30 ((((w51.setCell ⟨gb431, 0, none⟩ (.int .i64 t424)).setCell ⟨gb431, 1, none⟩ (.int .i64 t425)).setCell ⟨gb431, 2, none⟩ (.int .i64 t426)).setCell ⟨gb431, 3, none⟩ (.slice Ao55 t427.length co55)) w.heap.size (fun k_ => some k_ ≠ (.slice Ao25 t390.length co25 : Value).ownBlock ∧ some k_ ≠ (.slice Ao30 t397.length co30 : Value).ownBlock ∧ some k_ ≠ (.slice Ao36 t405.length co36 : Value).ownBlock ∧ some k_ ≠ (v422 : Value).ownBlock ∧ some k_ ≠ (.slice Ao55 t427.length co55 : Value).ownBlock) (.slice Ao44 t413.length co44) t413) := ⟨by (with_reducible repeat (first | apply Kd.R_alloc | apply Kd.R_drewN | apply Kd.R_drew)); exact Kd.R_mono (Kd.R_far (p := ⟨gb431, 3, none⟩) (Kd.R_far (p := ⟨gb431, 2, none⟩) (Kd.R_far (p := ⟨gb431, 1, none⟩) (Kd.R_far (p := ⟨gb431, 0, none⟩) (Kd.R_types HO415.out BK431.out (by decide)) (fun _ hk => hk.2) (.int .i64 t424)) (fun _ hk => hk.2) (.int .i64 t425)) (fun _ hk => hk.2) (.int .i64 t426)) (fun _ hk => hk.2) (.slice Ao55 t427.length co55)) (fun _ hk => ⟨hk.1.1, ⟨hk.1.2.1, ⟨hk.1.2.2.1, ⟨hk.1.2.2.2.1, hk.1.2.2.2.2⟩⟩⟩⟩)⟩
      have n4_ : Aside0 (Kd.R (Kd.int .u64) 30 ((((w51.setCell ⟨gb431, 0, none⟩ (.int .i64 t424)).setCell ⟨gb431, 1, none⟩ (.int .i64 t425)).setCell ⟨gb431, 2, none⟩ (.int .i64 t426)).setCell ⟨gb431, 3, none⟩ (.slice Ao55 t427.length co55)) w.heap.size (fun k_ => some k_ ≠ (.slice Ao25 t390.length co25 : Value).ownBlock ∧ some k_ ≠ (.slice Ao30 t397.length co30 : Value).ownBlock ∧ some k_ ≠ (.slice Ao36 t405.length co36 : Value).ownBlock ∧ some k_ ≠ (.slice Ao44 t413.length co44 : Value).ownBlock ∧ some k_ ≠ (.slice Ao55 t427.length co55 : Value).ownBlock) v422 t421) := ⟨by (with_reducible repeat (first | apply Kd.R_alloc | apply Kd.R_drewN | apply Kd.R_drew)); exact Kd.R_mono (Kd.R_far (p := ⟨gb431, 3, none⟩) (Kd.R_far (p := ⟨gb431, 2, none⟩) (Kd.R_far (p := ⟨gb431, 1, none⟩) (Kd.R_far (p := ⟨gb431, 0, none⟩) (Kd.R_types HO423.out BK431.out (by decide)) (fun _ hk => hk.2) (.int .i64 t424)) (fun _ hk => hk.2) (.int .i64 t425)) (fun _ hk => hk.2) (.int .i64 t426)) (fun _ hk => hk.2) (.slice Ao55 t427.length co55)) (fun _ hk => ⟨hk.1.1, ⟨hk.1.2.1, ⟨hk.1.2.2.1, ⟨hk.1.2.2.2.1, hk.1.2.2.2.2⟩⟩⟩⟩)⟩
      have n5_ : Aside0 (Kd.R (Kd.int .u64) 30 ((((w51.setCell ⟨gb431, 0, none⟩ (.int .i64 t424)).setCell ⟨gb431, 1, none⟩ (.int .i64 t425)).setCell ⟨gb431, 2, none⟩ (.int .i64 t426)).setCell ⟨gb431, 3, none⟩ (.slice Ao55 t427.length co55)) w.heap.size (fun k_ => some k_ ≠ (.slice Ao25 t390.length co25 : Value).ownBlock ∧ some k_ ≠ (.slice Ao30 t397.length co30 : Value).ownBlock ∧ some k_ ≠ (.slice Ao36 t405.length co36 : Value).ownBlock ∧ some k_ ≠ (.slice Ao44 t413.length co44 : Value).ownBlock ∧ some k_ ≠ (v422 : Value).ownBlock) (.slice Ao55 t427.length co55) t427) := ⟨by (with_reducible repeat (first | apply Kd.R_alloc | apply Kd.R_drewN | apply Kd.R_drew)); exact Kd.R_mono (Kd.R_far (p := ⟨gb431, 3, none⟩) (Kd.R_far (p := ⟨gb431, 2, none⟩) (Kd.R_far (p := ⟨gb431, 1, none⟩) (Kd.R_far (p := ⟨gb431, 0, none⟩) (Kd.R_types HO429.out BK431.out (by decide)) (fun _ hk => hk.2) (.int .i64 t424)) (fun _ hk => hk.2) (.int .i64 t425)) (fun _ hk => hk.2) (.int .i64 t426)) (fun _ hk => hk.2) (.slice Ao55 t427.length co55)) (fun _ hk => ⟨hk.1.1, ⟨hk.1.2.1, ⟨hk.1.2.2.1, ⟨hk.1.2.2.2.1, hk.1.2.2.2.2⟩⟩⟩⟩)⟩
      have n6_ : Aside0 (((((w51.setCell ⟨gb431, 0, none⟩ (.int .i64 t424)).setCell ⟨gb431, 1, none⟩ (.int .i64 t425)).setCell ⟨gb431, 2, none⟩ (.int .i64 t426)).setCell ⟨gb431, 3, none⟩ (.slice Ao55 t427.length co55)).heap[gb393]? = some (.cells #[.int .i64 t387, .int .i64 t388, .int .i64 t389, .slice Ao25 t390.length co25] 25 (0, 0))) := ⟨by (with_reducible repeat (first | refine blk_drewN ?_ _ | refine blk_drew ?_ | refine blk_alloc ?_ _)); refine blk_far ?_ NB393_431.out _; (with_reducible repeat (first | refine blk_drewN ?_ _ | refine blk_drew ?_ | refine blk_alloc ?_ _)); refine blk_far ?_ NB393_431.out _; (with_reducible repeat (first | refine blk_drewN ?_ _ | refine blk_drew ?_ | refine blk_alloc ?_ _)); refine blk_far ?_ NB393_431.out _; (with_reducible repeat (first | refine blk_drewN ?_ _ | refine blk_drew ?_ | refine blk_alloc ?_ _)); refine blk_far ?_ NB393_431.out _; (with_reducible repeat (first | refine blk_drewN ?_ _ | refine blk_drew ?_ | refine blk_alloc ?_ _)); exact BK393.out⟩
      have n7_ : Aside0 (((((w51.setCell ⟨gb431, 0, none⟩ (.int .i64 t424)).setCell ⟨gb431, 1, none⟩ (.int .i64 t425)).setCell ⟨gb431, 2, none⟩ (.int .i64 t426)).setCell ⟨gb431, 3, none⟩ (.slice Ao55 t427.length co55)).heap[gb401]? = some (.cells #[.int .i64 t394, .int .i64 t395, .int .i64 t396, .slice Ao30 t397.length co30] 25 (0, 0))) := ⟨by (with_reducible repeat (first | refine blk_drewN ?_ _ | refine blk_drew ?_ | refine blk_alloc ?_ _)); refine blk_far ?_ NB401_431.out _; (with_reducible repeat (first | refine blk_drewN ?_ _ | refine blk_drew ?_ | refine blk_alloc ?_ _)); refine blk_far ?_ NB401_431.out _; (with_reducible repeat (first | refine blk_drewN ?_ _ | refine blk_drew ?_ | refine blk_alloc ?_ _)); refine blk_far ?_ NB401_431.out _; (with_reducible repeat (first | refine blk_drewN ?_ _ | refine blk_drew ?_ | refine blk_alloc ?_ _)); refine blk_far ?_ NB401_431.out _; (with_reducible repeat (first | refine blk_drewN ?_ _ | refine blk_drew ?_ | refine blk_alloc ?_ _)); exact BK401.out⟩
      have n8_ : Aside0 (((((w51.setCell ⟨gb431, 0, none⟩ (.int .i64 t424)).setCell ⟨gb431, 1, none⟩ (.int .i64 t425)).setCell ⟨gb431, 2, none⟩ (.int .i64 t426)).setCell ⟨gb431, 3, none⟩ (.slice Ao55 t427.length co55)).heap[gb409]? = some (.cells #[.int .i64 t402, .int .i64 t403, .int .i64 t404, .slice Ao36 t405.length co36] 25 (0, 0))) := ⟨by (with_reducible repeat (first | refine blk_drewN ?_ _ | refine blk_drew ?_ | refine blk_alloc ?_ _)); refine blk_far ?_ NB409_431.out _; (with_reducible repeat (first | refine blk_drewN ?_ _ | refine blk_drew ?_ | refine blk_alloc ?_ _)); refine blk_far ?_ NB409_431.out _; (with_reducible repeat (first | refine blk_drewN ?_ _ | refine blk_drew ?_ | refine blk_alloc ?_ _)); refine blk_far ?_ NB409_431.out _; (with_reducible repeat (first | refine blk_drewN ?_ _ | refine blk_drew ?_ | refine blk_alloc ?_ _)); refine blk_far ?_ NB409_431.out _; (with_reducible repeat (first | refine blk_drewN ?_ _ | refine blk_drew ?_ | refine blk_alloc ?_ _)); exact BK409.out⟩
      have n9_ : Aside0 (((((w51.setCell ⟨gb431, 0, none⟩ (.int .i64 t424)).setCell ⟨gb431, 1, none⟩ (.int .i64 t425)).setCell ⟨gb431, 2, none⟩ (.int .i64 t426)).setCell ⟨gb431, 3, none⟩ (.slice Ao55 t427.length co55)).heap[gb417]? = some (.cells #[.int .i64 t410, .int .i64 t411, .int .i64 t412, .slice Ao44 t413.length co44] 25 (0, 0))) := ⟨by (with_reducible repeat (first | refine blk_drewN ?_ _ | refine blk_drew ?_ | refine blk_alloc ?_ _)); refine blk_far ?_ NB417_431.out _; (with_reducible repeat (first | refine blk_drewN ?_ _ | refine blk_drew ?_ | refine blk_alloc ?_ _)); refine blk_far ?_ NB417_431.out _; (with_reducible repeat (first | refine blk_drewN ?_ _ | refine blk_drew ?_ | refine blk_alloc ?_ _)); refine blk_far ?_ NB417_431.out _; (with_reducible repeat (first | refine blk_drewN ?_ _ | refine blk_drew ?_ | refine blk_alloc ?_ _)); refine blk_far ?_ NB417_431.out _; (with_reducible repeat (first | refine blk_drewN ?_ _ | refine blk_drew ?_ | refine blk_alloc ?_ _)); exact BK417.out⟩
      have n10_ : Aside0 (((((w51.setCell ⟨gb431, 0, none⟩ (.int .i64 t424)).setCell ⟨gb431, 1, none⟩ (.int .i64 t425)).setCell ⟨gb431, 2, none⟩ (.int .i64 t426)).setCell ⟨gb431, 3, none⟩ (.slice Ao55 t427.length co55)).heap[gb431]? = some (.cells #[.int .i64 t424, .int .i64 t425, .int .i64 t426, .slice Ao55 t427.length co55] 25 (0, 0))) := ⟨by (with_reducible repeat (first | refine blk_drewN ?_ _ | refine blk_drew ?_ | refine blk_alloc ?_ _)); refine blk_put (cs := #[.int .i64 t424, .int .i64 t425, .int .i64 t426, .slice none 0 0]) ?_ 3 _ rfl; (with_reducible repeat (first | refine blk_drewN ?_ _ | refine blk_drew ?_ | refine blk_alloc ?_ _)); refine blk_put (cs := #[.int .i64 t424, .int .i64 t425, .int .i64 0, .slice none 0 0]) ?_ 2 _ rfl; (with_reducible repeat (first | refine blk_drewN ?_ _ | refine blk_drew ?_ | refine blk_alloc ?_ _)); refine blk_put (cs := #[.int .i64 t424, .int .i64 0, .int .i64 0, .slice none 0 0]) ?_ 1 _ rfl; (with_reducible repeat (first | refine blk_drewN ?_ _ | refine blk_drew ?_ | refine blk_alloc ?_ _)); refine blk_put (cs := #[.int .i64 0, .int .i64 0, .int .i64 0, .slice none 0 0]) ?_ 0 _ rfl; (with_reducible repeat (first | refine blk_drewN ?_ _ | refine blk_drew ?_ | refine blk_alloc ?_ _)); exact BK431.out⟩
      have n11_ : Aside0 (Below w.heap.size w ((((w51.setCell ⟨gb431, 0, none⟩ (.int .i64 t424)).setCell ⟨gb431, 1, none⟩ (.int .i64 t425)).setCell ⟨gb431, 2, none⟩ (.int .i64 t426)).setCell ⟨gb431, 3, none⟩ (.slice Ao55 t427.length co55))) := ⟨bes⟩
      (try clear HO392)
      (try clear HO399)
      (try clear HO407)
      (try clear HO415)
      (try clear HO423)
      (try clear HO429)
      (try clear BK393)
      (try clear BK401)
      (try clear BK409)
      (try clear BK417)
      (try clear BK431)
      (try clear HB)
      generalize ((((w51.setCell ⟨gb431, 0, none⟩ (.int .i64 t424)).setCell ⟨gb431, 1, none⟩ (.int .i64 t425)).setCell ⟨gb431, 2, none⟩ (.int .i64 t426)).setCell ⟨gb431, 3, none⟩ (.slice Ao55 t427.length co55)) = w60 at n0_ n1_ n2_ n3_ n4_ n5_ n6_ n7_ n8_ n9_ n10_ n11_ ⊢
      have HO392 := n0_
      have HO399 := n1_
      have HO407 := n2_
      have HO415 := n3_
      have HO423 := n4_
      have HO429 := n5_
      have BK393 := n6_
      have BK401 := n7_
      have BK409 := n8_
      have BK417 := n9_
      have BK431 := n10_
      have HB := n11_
      clear n0_ n1_ n2_ n3_ n4_ n5_ n6_ n7_ n8_ n9_ n10_ n11_
      have n0_ := Aside0.mk (Kd.R_drew HO392.out)
      have n1_ := Aside0.mk (Kd.R_drew HO399.out)
      have n2_ := Aside0.mk (Kd.R_drew HO407.out)
      have n3_ := Aside0.mk (Kd.R_drew HO415.out)
      have n4_ := Aside0.mk (Kd.R_drew HO423.out)
      have n5_ := Aside0.mk (Kd.R_drew HO429.out)
      have n6_ := Aside0.mk (blk_drew BK393.out)
      have n7_ := Aside0.mk (blk_drew BK401.out)
      have n8_ := Aside0.mk (blk_drew BK409.out)
      have n9_ := Aside0.mk (blk_drew BK417.out)
      have n10_ := Aside0.mk (blk_drew BK431.out)
      have n11_ := Aside0.mk (below_drew1 HB.out)
      clear HO392
      clear HO399
      clear HO407
      clear HO415
      clear HO423
      clear HO429
      clear BK393
      clear BK401
      clear BK409
      clear BK417
      clear BK431
      clear HB
      have HO392 := n0_
      have HO399 := n1_
      have HO407 := n2_
      have HO415 := n3_
      have HO423 := n4_
      have HO429 := n5_
      have BK393 := n6_
      have BK401 := n7_
      have BK409 := n8_
      have BK417 := n9_
      have BK431 := n10_
      have HB := n11_
      clear n0_ n1_ n2_ n3_ n4_ n5_ n6_ n7_ n8_ n9_ n10_ n11_
      refine start_ (n := 9) (S := fun w' => w'.cell? ⟨gb431, 0, none⟩ = some (.int .i64 t424) ∧ w'.cell? ⟨gb431, 1, none⟩ = some (.int .i64 t425) ∧ w'.cell? ⟨gb431, 2, none⟩ = some (.int .i64 t426) ∧ w'.cell? ⟨gb431, 3, none⟩ = some (.slice Ao55 t427.length co55) ∧ w'.cell? ⟨gb401, 0, none⟩ = some (.int .i64 t394) ∧ w'.cell? ⟨gb401, 1, none⟩ = some (.int .i64 t395) ∧ w'.cell? ⟨gb401, 2, none⟩ = some (.int .i64 t396) ∧ w'.cell? ⟨gb401, 3, none⟩ = some (.slice Ao30 t397.length co30)) (ds := []) #[false, false, false, false, false, false, false, false, false] (by kernel_rfl) rfl rfl ⟨(blk_cell BK431.out 0).trans rfl, (blk_cell BK431.out 1).trans rfl, (blk_cell BK431.out 2).trans rfl, (blk_cell BK431.out 3).trans rfl, (blk_cell BK401.out 0).trans rfl, (blk_cell BK401.out 1).trans rfl, (blk_cell BK401.out 2).trans rfl, (blk_cell BK401.out 3).trans rfl⟩ (fun hHeld => ?_); refine with_tabW gimballaw09_MatParts.tab16 gimballaw09_MatParts.bits16 (fun HT_ HW_ => ?_)
      generalize w60.drew = w61 at HO392 HO399 HO407 HO415 HO423 HO429 BK393 BK401 BK409 BK417 BK431 HB hHeld ⊢
      refine pure_ (i := 0) (N := some 105) (v := ?_) (a' := ?_) #[true, false, false, false, false, false, false, false, false] rfl rfl (any_of HT_.out (by kernel_rfl)) (fun _ _ _ h => h) (Or.inl ⟨by rfl, ?_⟩) ?_ ?_
      rotate_left
      ·
       intro w'
       go_simp
       with_reducible rfl
      rotate_left
      ·
       simp only [Act.put, List.setIfInBounds_toArray, List.set_cons_zero, List.set_cons_succ, i64_w, i32_w]
       rfl
      refine pure_ (i := 1) (N := some 106) (v := ?_) (a' := ?_) #[true, true, false, false, false, false, false, false, false] rfl rfl (any_of HT_.out (by kernel_rfl)) (fun _ _ _ h => h) (Or.inl ⟨by rfl, ?_⟩) ?_ ?_
      rotate_left
      ·
       intro w'
       go_simp
       with_reducible rfl
      rotate_left
      ·
       simp only [Act.put, List.setIfInBounds_toArray, List.set_cons_zero, List.set_cons_succ, i64_w, i32_w]
       rfl
      refine pure_ (i := 2) (N := some 107) (v := ?_) (a' := ?_) #[true, true, true, false, false, false, false, false, false] rfl rfl (any_of HT_.out (by kernel_rfl)) (fun _ _ _ h => h) (Or.inl ⟨by rfl, ?_⟩) ?_ ?_
      rotate_left
      ·
       intro w'
       go_simp
       with_reducible rfl
      rotate_left
      ·
       simp only [Act.put, List.setIfInBounds_toArray, List.set_cons_zero, List.set_cons_succ, i64_w, i32_w]
       rfl
      refine take_ (i := 3) (N := some 108) (v := ?_) (a' := ?_) #[true, true, true, true, false, false, false, false, false] rfl rfl (take_ofW HT_.out HW_.out (by kernel_rfl)) (fun _ _ _ h => h) (Or.inl ⟨by rfl, ?_⟩) hHeld ?_ ?_
      rotate_left
      ·
       rintro w' ⟨s0, s1, s2, s3, s4, s5, s6, s7⟩
       go_simp
       with_reducible rfl
      rotate_left
      ·
       simp only [Act.put, List.setIfInBounds_toArray, List.set_cons_zero, List.set_cons_succ, i64_w, i32_w]
       rfl
      refine take_ (i := 5) (N := some 110) (v := ?_) (a' := ?_) #[true, true, true, true, false, true, false, false, false] rfl rfl (take_ofW HT_.out HW_.out (by kernel_rfl)) (fun _ _ _ h => h) (Or.inl ⟨by rfl, ?_⟩) hHeld ?_ ?_
      rotate_left
      ·
       rintro w' ⟨s0, s1, s2, s3, s4, s5, s6, s7⟩
       go_simp
       with_reducible rfl
      rotate_left
      ·
       simp only [Act.put, List.setIfInBounds_toArray, List.set_cons_zero, List.set_cons_succ, i64_w, i32_w]
       rfl
      refine one_ (i := 4) (N := some 109) #[true, true, true, true, true, true, false, false, false] rfl rfl (one_of HT_.out (by kernel_rfl)) (by decide) (fun K hK => ?_)
      refine goes_ Try.func16 (by kernel_rfl) rfl #[.agg #[.int .i64 t424, .int .i64 t425, .int .i64 t426, .slice Ao55 t427.length co55]] (by rfl) rfl rfl ga ?_
      with_reducible refine (mat_Matrix_Turn.calls k t424 t425 t426 _ _ t427 t432 t433 t434 t435 _ ?side1 ?side2 A58.out).mono ?_
      (case side1 => exact ks HO429)
      (case side2 => exact (Kd.R_reads' HO429.out).2.1)
      rintro e w62 ⟨v436, rfl, ho0, hb⟩
      refine ⟨_, rfl, ?_⟩
      have n0_ := Aside0.mk (Kd.R_elder' (kr HO392) (Kd.R_base ho0) hb)
      have n1_ := Aside0.mk (Kd.R_elder' (kr HO399) (Kd.R_base ho0) hb)
      have n2_ := Aside0.mk (Kd.R_elder' (kr HO407) (Kd.R_base ho0) hb)
      have n3_ := Aside0.mk (Kd.R_elder' (kr HO415) (Kd.R_base ho0) hb)
      have n4_ := Aside0.mk (Kd.R_elder' (kr HO423) (Kd.R_base ho0) hb)
      have n5_ := Aside0.mk (Kd.R_elder' (kr HO429) (Kd.R_base ho0) hb)
      have n6_ := Aside0.mk (Kd.R_lower (Kd.R_new' (Kd.R_new' (Kd.R_new' (Kd.R_new' (Kd.R_new' (Kd.R_new' ho0 (Kd.R_lt (kr HO392))) (Kd.R_lt (kr HO399))) (Kd.R_lt (kr HO407))) (Kd.R_lt (kr HO415))) (Kd.R_lt (kr HO423))) (Kd.R_lt (kr HO429))) (below_size bes))
      have n7_ := Aside0.mk (blk_below (g := gb393) (o := .cells #[.int .i64 t387, .int .i64 t388, .int .i64 t389, .slice Ao25 t390.length co25] 25 (0, 0)) (kb BK393) hb)
      have n8_ := Aside0.mk (blk_below (g := gb401) (o := .cells #[.int .i64 t394, .int .i64 t395, .int .i64 t396, .slice Ao30 t397.length co30] 25 (0, 0)) (kb BK401) hb)
      have n9_ := Aside0.mk (blk_below (g := gb409) (o := .cells #[.int .i64 t402, .int .i64 t403, .int .i64 t404, .slice Ao36 t405.length co36] 25 (0, 0)) (kb BK409) hb)
      have n10_ := Aside0.mk (blk_below (g := gb417) (o := .cells #[.int .i64 t410, .int .i64 t411, .int .i64 t412, .slice Ao44 t413.length co44] 25 (0, 0)) (kb BK417) hb)
      have n11_ := Aside0.mk (blk_below (g := gb431) (o := .cells #[.int .i64 t424, .int .i64 t425, .int .i64 t426, .slice Ao55 t427.length co55] 25 (0, 0)) (kb BK431) hb)
      have n12_ := Aside0.mk (below_step bes hb)
      clear HO392
      clear HO399
      clear HO407
      clear HO415
      clear HO423
      clear HO429
      clear BK393
      clear BK401
      clear BK409
      clear BK417
      clear BK431
      clear HB
      have HO392 := n0_
      have HO399 := n1_
      have HO407 := n2_
      have HO415 := n3_
      have HO423 := n4_
      have HO429 := n5_
      have HO437 := n6_
      have BK393 := n7_
      have BK401 := n8_
      have BK409 := n9_
      have BK417 := n10_
      have BK431 := n11_
      have HB := n12_
      clear n0_ n1_ n2_ n3_ n4_ n5_ n6_ n7_ n8_ n9_ n10_ n11_ n12_
      (try clear hb)
      (try clear hb2)
      (try clear hk)
      (try clear hi)
      (try clear ho0)
      obtain ⟨Ao63, co63, eo63⟩ := Kd.R_slice HO437.out
      (first | subst eo63 | (injection eo63 with f1_ f2_ f3_; have f4_ := f1_.symm; have f5_ := f3_.symm; clear f1_ f2_ f3_; subst f4_; subst f5_))
      refine hK.out _ _ ⟨(blk_cell BK431.out 0).trans rfl, (blk_cell BK431.out 1).trans rfl, (blk_cell BK431.out 2).trans rfl, (blk_cell BK431.out 3).trans rfl, (blk_cell BK401.out 0).trans rfl, (blk_cell BK401.out 1).trans rfl, (blk_cell BK401.out 2).trans rfl, (blk_cell BK401.out 3).trans rfl⟩ (fun hHeld => ?_)
      clear hK K
      refine norm_ (a' := ?_) ?_ ?_
      rotate_left
      ·
       show Act.put _ (some 109) _ = _
       simp only [Act.put, List.setIfInBounds_toArray, List.set_cons_zero, List.set_cons_succ, i64_w, i32_w]
       rfl
      refine one_ (i := 6) (N := some 111) #[true, true, true, true, true, true, true, false, false] rfl rfl (one_of HT_.out (by kernel_rfl)) (by decide) (fun K hK => ?_)
      refine goes_ Try.func17 (by kernel_rfl) rfl #[.agg #[.int .i64 t432, .int .i64 t433, .int .i64 t434, .slice Ao63 t435.length co63], .agg #[.int .i64 t394, .int .i64 t395, .int .i64 t396, .slice Ao30 t397.length co30]] (by rfl) rfl rfl ga ?_
      with_reducible refine (mat_Matrix_Same.calls k t432 t433 t434 _ _ t435 t394 t395 t396 _ _ t397 t438 _ ?side1 ?side2 ?side3 ?side4 A59.out).mono ?_
      (case side1 => exact ks HO437)
      (case side2 => exact (Kd.R_reads' HO437.out).2.1)
      (case side3 => exact ks HO399)
      (case side4 => exact (Kd.R_reads' HO399.out).2.1)
      rintro e w64 ⟨rfl, hb⟩
      refine ⟨_, rfl, ?_⟩
      have n0_ := Aside0.mk (Kd.R_below (kr HO392) hb)
      have n1_ := Aside0.mk (Kd.R_below (kr HO399) hb)
      have n2_ := Aside0.mk (Kd.R_below (kr HO407) hb)
      have n3_ := Aside0.mk (Kd.R_below (kr HO415) hb)
      have n4_ := Aside0.mk (Kd.R_below (kr HO423) hb)
      have n5_ := Aside0.mk (Kd.R_below (kr HO429) hb)
      have n6_ := Aside0.mk (Kd.R_below (kr HO437) hb)
      have n7_ := Aside0.mk (blk_below (g := gb393) (o := .cells #[.int .i64 t387, .int .i64 t388, .int .i64 t389, .slice Ao25 t390.length co25] 25 (0, 0)) (kb BK393) hb)
      have n8_ := Aside0.mk (blk_below (g := gb401) (o := .cells #[.int .i64 t394, .int .i64 t395, .int .i64 t396, .slice Ao30 t397.length co30] 25 (0, 0)) (kb BK401) hb)
      have n9_ := Aside0.mk (blk_below (g := gb409) (o := .cells #[.int .i64 t402, .int .i64 t403, .int .i64 t404, .slice Ao36 t405.length co36] 25 (0, 0)) (kb BK409) hb)
      have n10_ := Aside0.mk (blk_below (g := gb417) (o := .cells #[.int .i64 t410, .int .i64 t411, .int .i64 t412, .slice Ao44 t413.length co44] 25 (0, 0)) (kb BK417) hb)
      have n11_ := Aside0.mk (blk_below (g := gb431) (o := .cells #[.int .i64 t424, .int .i64 t425, .int .i64 t426, .slice Ao55 t427.length co55] 25 (0, 0)) (kb BK431) hb)
      have n12_ := Aside0.mk (below_step bes hb)
      clear HO392
      clear HO399
      clear HO407
      clear HO415
      clear HO423
      clear HO429
      clear HO437
      clear BK393
      clear BK401
      clear BK409
      clear BK417
      clear BK431
      clear HB
      have HO392 := n0_
      have HO399 := n1_
      have HO407 := n2_
      have HO415 := n3_
      have HO423 := n4_
      have HO429 := n5_
      have HO437 := n6_
      have BK393 := n7_
      have BK401 := n8_
      have BK409 := n9_
      have BK417 := n10_
      have BK431 := n11_
      have HB := n12_
      clear n0_ n1_ n2_ n3_ n4_ n5_ n6_ n7_ n8_ n9_ n10_ n11_ n12_
      (try clear hb)
      (try clear hb2)
      (try clear hk)
      (try clear hi)
      refine hK.out _ _ ⟨(blk_cell BK431.out 0).trans rfl, (blk_cell BK431.out 1).trans rfl, (blk_cell BK431.out 2).trans rfl, (blk_cell BK431.out 3).trans rfl, (blk_cell BK401.out 0).trans rfl, (blk_cell BK401.out 1).trans rfl, (blk_cell BK401.out 2).trans rfl, (blk_cell BK401.out 3).trans rfl⟩ (fun hHeld => ?_)
      clear hK K
      refine norm_ (a' := ?_) ?_ ?_
      rotate_left
      ·
       show Act.put _ (some 111) _ = _
       simp only [Act.put, List.setIfInBounds_toArray, List.set_cons_zero, List.set_cons_succ, i64_w, i32_w]
       rfl
      refine pure_ (i := 7) (N := some 112) (v := ?_) (a' := ?_) #[true, true, true, true, true, true, true, true, false] rfl rfl (any_of HT_.out (by kernel_rfl)) (fun _ _ _ h => h) (Or.inl ⟨by rfl, ?_⟩) ?_ ?_
      rotate_left
      ·
       intro w'
       go_simp
       with_reducible rfl
      rotate_left
      ·
       simp only [Act.put, List.setIfInBounds_toArray, List.set_cons_zero, List.set_cons_succ, i64_w, i32_w]
       rfl
      refine pure_ (i := 8) (N := some 113) (v := ?_) (a' := ?_) #[true, true, true, true, true, true, true, true, true] rfl rfl (any_of HT_.out (by kernel_rfl)) (fun _ _ _ h => h) (Or.inl ⟨by rfl, ?_⟩) ?_ ?_
      rotate_left
      ·
       intro w'
       go_simp
       with_reducible rfl
      rotate_left
      ·
       simp only [Act.put, List.setIfInBounds_toArray, List.set_cons_zero, List.set_cons_succ, i64_w, i32_w]
       rfl
      refine done_ (done_of HT_.out (by kernel_rfl)) ?_
      try go_wp2
      go_meet
      case rel => exact ⟨_, (!t438), (by first | rfl | (simp; done) | (simp [*]; done)), H', ⟨by first | omega | exact Nat.le_refl _⟩, ⟨by (with_reducible repeat (first | apply Kd.R_alloc | apply Kd.R_drewN | apply Kd.R_drew)); exact Kd.R_mono HO392.out (fun _ hk => ⟨hk.1.1, ⟨hk.1.2.1, ⟨hk.1.2.2.1, hk.1.2.2.2.2⟩⟩⟩)⟩, ⟨by (with_reducible repeat (first | apply Kd.R_alloc | apply Kd.R_drewN | apply Kd.R_drew)); exact Kd.R_mono HO399.out (fun _ hk => ⟨hk.1.1, ⟨hk.1.2.1, ⟨hk.1.2.2.1, hk.1.2.2.2.2⟩⟩⟩)⟩, ⟨by (with_reducible repeat (first | apply Kd.R_alloc | apply Kd.R_drewN | apply Kd.R_drew)); exact Kd.R_mono HO407.out (fun _ hk => ⟨hk.1.1, ⟨hk.1.2.1, ⟨hk.1.2.2.1, hk.1.2.2.2.2⟩⟩⟩)⟩, ⟨by (with_reducible repeat (first | apply Kd.R_alloc | apply Kd.R_drewN | apply Kd.R_drew)); exact Kd.R_mono HO415.out (fun _ hk => ⟨hk.1.1, ⟨hk.1.2.1, ⟨hk.1.2.2.1, hk.1.2.2.2.2⟩⟩⟩)⟩, ⟨by (with_reducible repeat (first | apply Kd.R_alloc | apply Kd.R_drewN | apply Kd.R_drew)); exact Kd.R_mono HO429.out (fun _ hk => ⟨hk.1.1, ⟨hk.1.2.1, ⟨hk.1.2.2.1, hk.1.2.2.2.1⟩⟩⟩)⟩, ⟨kb BK393⟩, ⟨kb BK401⟩, ⟨kb BK409⟩, ⟨kb BK417⟩, ⟨kb BK431⟩, ⟨bes⟩⟩
     ·
      rw [if_neg c57] at H
      have c57b0 : (t430 == 0) = false := beq_eq_false_iff_ne.mpr c57
      have c57b1 : (t430 != 0) = true := bne_iff_ne.mpr c57
      (first | rw [c57b0] | (simp only [i64_w, i32_w]; rw [c57b0]) | skip)
      have H' := Aside0.mk H
      clear H
      try go_wp2
      have n0_ : Aside0 (Kd.R (Kd.int .u64) 30 ((((w51.setCell ⟨gb431, 0, none⟩ (.int .i64 t424)).setCell ⟨gb431, 1, none⟩ (.int .i64 t425)).setCell ⟨gb431, 2, none⟩ (.int .i64 t426)).setCell ⟨gb431, 3, none⟩ (.slice Ao55 t427.length co55)) w.heap.size (fun k_ => some k_ ≠ (.slice Ao30 t397.length co30 : Value).ownBlock ∧ some k_ ≠ (.slice Ao36 t405.length co36 : Value).ownBlock ∧ some k_ ≠ (.slice Ao44 t413.length co44 : Value).ownBlock ∧ some k_ ≠ (v422 : Value).ownBlock ∧ some k_ ≠ (.slice Ao55 t427.length co55 : Value).ownBlock) (.slice Ao25 t390.length co25) t390) := ⟨by (with_reducible repeat (first | apply Kd.R_alloc | apply Kd.R_drewN | apply Kd.R_drew)); exact Kd.R_mono (Kd.R_far (p := ⟨gb431, 3, none⟩) (Kd.R_far (p := ⟨gb431, 2, none⟩) (Kd.R_far (p := ⟨gb431, 1, none⟩) (Kd.R_far (p := ⟨gb431, 0, none⟩) (Kd.R_types HO392.out BK431.out (by decide)) (fun _ hk => hk.2) (.int .i64 t424)) (fun _ hk => hk.2) (.int .i64 t425)) (fun _ hk => hk.2) (.int .i64 t426)) (fun _ hk => hk.2) (.slice Ao55 t427.length co55)) (fun _ hk => ⟨hk.1.1, ⟨hk.1.2.1, ⟨hk.1.2.2.1, ⟨hk.1.2.2.2.1, hk.1.2.2.2.2⟩⟩⟩⟩)⟩
      have n1_ : Aside0 (Kd.R (Kd.int .u64) 30 ((((w51.setCell ⟨gb431, 0, none⟩ (.int .i64 t424)).setCell ⟨gb431, 1, none⟩ (.int .i64 t425)).setCell ⟨gb431, 2, none⟩ (.int .i64 t426)).setCell ⟨gb431, 3, none⟩ (.slice Ao55 t427.length co55)) w.heap.size (fun k_ => some k_ ≠ (.slice Ao25 t390.length co25 : Value).ownBlock ∧ some k_ ≠ (.slice Ao36 t405.length co36 : Value).ownBlock ∧ some k_ ≠ (.slice Ao44 t413.length co44 : Value).ownBlock ∧ some k_ ≠ (v422 : Value).ownBlock ∧ some k_ ≠ (.slice Ao55 t427.length co55 : Value).ownBlock) (.slice Ao30 t397.length co30) t397) := ⟨by (with_reducible repeat (first | apply Kd.R_alloc | apply Kd.R_drewN | apply Kd.R_drew)); exact Kd.R_mono (Kd.R_far (p := ⟨gb431, 3, none⟩) (Kd.R_far (p := ⟨gb431, 2, none⟩) (Kd.R_far (p := ⟨gb431, 1, none⟩) (Kd.R_far (p := ⟨gb431, 0, none⟩) (Kd.R_types HO399.out BK431.out (by decide)) (fun _ hk => hk.2) (.int .i64 t424)) (fun _ hk => hk.2) (.int .i64 t425)) (fun _ hk => hk.2) (.int .i64 t426)) (fun _ hk => hk.2) (.slice Ao55 t427.length co55)) (fun _ hk => ⟨hk.1.1, ⟨hk.1.2.1, ⟨hk.1.2.2.1, ⟨hk.1.2.2.2.1, hk.1.2.2.2.2⟩⟩⟩⟩)⟩
      have n2_ : Aside0 (Kd.R (Kd.int .u64) 30 ((((w51.setCell ⟨gb431, 0, none⟩ (.int .i64 t424)).setCell ⟨gb431, 1, none⟩ (.int .i64 t425)).setCell ⟨gb431, 2, none⟩ (.int .i64 t426)).setCell ⟨gb431, 3, none⟩ (.slice Ao55 t427.length co55)) w.heap.size (fun k_ => some k_ ≠ (.slice Ao25 t390.length co25 : Value).ownBlock ∧ some k_ ≠ (.slice Ao30 t397.length co30 : Value).ownBlock ∧ some k_ ≠ (.slice Ao44 t413.length co44 : Value).ownBlock ∧ some k_ ≠ (v422 : Value).ownBlock ∧ some k_ ≠ (.slice Ao55 t427.length co55 : Value).ownBlock) (.slice Ao36 t405.length co36) t405) := ⟨by (with_reducible repeat (first | apply Kd.R_alloc | apply Kd.R_drewN | apply Kd.R_drew)); exact Kd.R_mono (Kd.R_far (p := ⟨gb431, 3, none⟩) (Kd.R_far (p := ⟨gb431, 2, none⟩) (Kd.R_far (p := ⟨gb431, 1, none⟩) (Kd.R_far (p := ⟨gb431, 0, none⟩) (Kd.R_types HO407.out BK431.out (by decide)) (fun _ hk => hk.2) (.int .i64 t424)) (fun _ hk => hk.2) (.int .i64 t425)) (fun _ hk => hk.2) (.int .i64 t426)) (fun _ hk => hk.2) (.slice Ao55 t427.length co55)) (fun _ hk => ⟨hk.1.1, ⟨hk.1.2.1, ⟨hk.1.2.2.1, ⟨hk.1.2.2.2.1, hk.1.2.2.2.2⟩⟩⟩⟩)⟩
      have n3_ : Aside0 (Kd.R (Kd.int .u64) 30 ((((w51.setCell ⟨gb431, 0, none⟩ (.int .i64 t424)).setCell ⟨gb431, 1, none⟩ (.int .i64 t425)).setCell ⟨gb431, 2, none⟩ (.int .i64 t426)).setCell ⟨gb431, 3, none⟩ (.slice Ao55 t427.length co55)) w.heap.size (fun k_ => some k_ ≠ (.slice Ao25 t390.length co25 : Value).ownBlock ∧ some k_ ≠ (.slice Ao30 t397.length co30 : Value).ownBlock ∧ some k_ ≠ (.slice Ao36 t405.length co36 : Value).ownBlock ∧ some k_ ≠ (v422 : Value).ownBlock ∧ some k_ ≠ (.slice Ao55 t427.length co55 : Value).ownBlock) (.slice Ao44 t413.length co44) t413) := ⟨by (with_reducible repeat (first | apply Kd.R_alloc | apply Kd.R_drewN | apply Kd.R_drew)); exact Kd.R_mono (Kd.R_far (p := ⟨gb431, 3, none⟩) (Kd.R_far (p := ⟨gb431, 2, none⟩) (Kd.R_far (p := ⟨gb431, 1, none⟩) (Kd.R_far (p := ⟨gb431, 0, none⟩) (Kd.R_types HO415.out BK431.out (by decide)) (fun _ hk => hk.2) (.int .i64 t424)) (fun _ hk => hk.2) (.int .i64 t425)) (fun _ hk => hk.2) (.int .i64 t426)) (fun _ hk => hk.2) (.slice Ao55 t427.length co55)) (fun _ hk => ⟨hk.1.1, ⟨hk.1.2.1, ⟨hk.1.2.2.1, ⟨hk.1.2.2.2.1, hk.1.2.2.2.2⟩⟩⟩⟩)⟩
      have n4_ : Aside0 (Kd.R (Kd.int .u64) 30 ((((w51.setCell ⟨gb431, 0, none⟩ (.int .i64 t424)).setCell ⟨gb431, 1, none⟩ (.int .i64 t425)).setCell ⟨gb431, 2, none⟩ (.int .i64 t426)).setCell ⟨gb431, 3, none⟩ (.slice Ao55 t427.length co55)) w.heap.size (fun k_ => some k_ ≠ (.slice Ao25 t390.length co25 : Value).ownBlock ∧ some k_ ≠ (.slice Ao30 t397.length co30 : Value).ownBlock ∧ some k_ ≠ (.slice Ao36 t405.length co36 : Value).ownBlock ∧ some k_ ≠ (.slice Ao44 t413.length co44 : Value).ownBlock ∧ some k_ ≠ (.slice Ao55 t427.length co55 : Value).ownBlock) v422 t421) := ⟨by (with_reducible repeat (first | apply Kd.R_alloc | apply Kd.R_drewN | apply Kd.R_drew)); exact Kd.R_mono (Kd.R_far (p := ⟨gb431, 3, none⟩) (Kd.R_far (p := ⟨gb431, 2, none⟩) (Kd.R_far (p := ⟨gb431, 1, none⟩) (Kd.R_far (p := ⟨gb431, 0, none⟩) (Kd.R_types HO423.out BK431.out (by decide)) (fun _ hk => hk.2) (.int .i64 t424)) (fun _ hk => hk.2) (.int .i64 t425)) (fun _ hk => hk.2) (.int .i64 t426)) (fun _ hk => hk.2) (.slice Ao55 t427.length co55)) (fun _ hk => ⟨hk.1.1, ⟨hk.1.2.1, ⟨hk.1.2.2.1, ⟨hk.1.2.2.2.1, hk.1.2.2.2.2⟩⟩⟩⟩)⟩
      have n5_ : Aside0 (Kd.R (Kd.int .u64) 30 ((((w51.setCell ⟨gb431, 0, none⟩ (.int .i64 t424)).setCell ⟨gb431, 1, none⟩ (.int .i64 t425)).setCell ⟨gb431, 2, none⟩ (.int .i64 t426)).setCell ⟨gb431, 3, none⟩ (.slice Ao55 t427.length co55)) w.heap.size (fun k_ => some k_ ≠ (.slice Ao25 t390.length co25 : Value).ownBlock ∧ some k_ ≠ (.slice Ao30 t397.length co30 : Value).ownBlock ∧ some k_ ≠ (.slice Ao36 t405.length co36 : Value).ownBlock ∧ some k_ ≠ (.slice Ao44 t413.length co44 : Value).ownBlock ∧ some k_ ≠ (v422 : Value).ownBlock) (.slice Ao55 t427.length co55) t427) := ⟨by (with_reducible repeat (first | apply Kd.R_alloc | apply Kd.R_drewN | apply Kd.R_drew)); exact Kd.R_mono (Kd.R_far (p := ⟨gb431, 3, none⟩) (Kd.R_far (p := ⟨gb431, 2, none⟩) (Kd.R_far (p := ⟨gb431, 1, none⟩) (Kd.R_far (p := ⟨gb431, 0, none⟩) (Kd.R_types HO429.out BK431.out (by decide)) (fun _ hk => hk.2) (.int .i64 t424)) (fun _ hk => hk.2) (.int .i64 t425)) (fun _ hk => hk.2) (.int .i64 t426)) (fun _ hk => hk.2) (.slice Ao55 t427.length co55)) (fun _ hk => ⟨hk.1.1, ⟨hk.1.2.1, ⟨hk.1.2.2.1, ⟨hk.1.2.2.2.1, hk.1.2.2.2.2⟩⟩⟩⟩)⟩
      have n6_ : Aside0 (((((w51.setCell ⟨gb431, 0, none⟩ (.int .i64 t424)).setCell ⟨gb431, 1, none⟩ (.int .i64 t425)).setCell ⟨gb431, 2, none⟩ (.int .i64 t426)).setCell ⟨gb431, 3, none⟩ (.slice Ao55 t427.length co55)).heap[gb393]? = some (.cells #[.int .i64 t387, .int .i64 t388, .int .i64 t389, .slice Ao25 t390.length co25] 25 (0, 0))) := ⟨by (with_reducible repeat (first | refine blk_drewN ?_ _ | refine blk_drew ?_ | refine blk_alloc ?_ _)); refine blk_far ?_ NB393_431.out _; (with_reducible repeat (first | refine blk_drewN ?_ _ | refine blk_drew ?_ | refine blk_alloc ?_ _)); refine blk_far ?_ NB393_431.out _; (with_reducible repeat (first | refine blk_drewN ?_ _ | refine blk_drew ?_ | refine blk_alloc ?_ _)); refine blk_far ?_ NB393_431.out _; (with_reducible repeat (first | refine blk_drewN ?_ _ | refine blk_drew ?_ | refine blk_alloc ?_ _)); refine blk_far ?_ NB393_431.out _; (with_reducible repeat (first | refine blk_drewN ?_ _ | refine blk_drew ?_ | refine blk_alloc ?_ _)); exact BK393.out⟩
      have n7_ : Aside0 (((((w51.setCell ⟨gb431, 0, none⟩ (.int .i64 t424)).setCell ⟨gb431, 1, none⟩ (.int .i64 t425)).setCell ⟨gb431, 2, none⟩ (.int .i64 t426)).setCell ⟨gb431, 3, none⟩ (.slice Ao55 t427.length co55)).heap[gb401]? = some (.cells #[.int .i64 t394, .int .i64 t395, .int .i64 t396, .slice Ao30 t397.length co30] 25 (0, 0))) := ⟨by (with_reducible repeat (first | refine blk_drewN ?_ _ | refine blk_drew ?_ | refine blk_alloc ?_ _)); refine blk_far ?_ NB401_431.out _; (with_reducible repeat (first | refine blk_drewN ?_ _ | refine blk_drew ?_ | refine blk_alloc ?_ _)); refine blk_far ?_ NB401_431.out _; (with_reducible repeat (first | refine blk_drewN ?_ _ | refine blk_drew ?_ | refine blk_alloc ?_ _)); refine blk_far ?_ NB401_431.out _; (with_reducible repeat (first | refine blk_drewN ?_ _ | refine blk_drew ?_ | refine blk_alloc ?_ _)); refine blk_far ?_ NB401_431.out _; (with_reducible repeat (first | refine blk_drewN ?_ _ | refine blk_drew ?_ | refine blk_alloc ?_ _)); exact BK401.out⟩
      have n8_ : Aside0 (((((w51.setCell ⟨gb431, 0, none⟩ (.int .i64 t424)).setCell ⟨gb431, 1, none⟩ (.int .i64 t425)).setCell ⟨gb431, 2, none⟩ (.int .i64 t426)).setCell ⟨gb431, 3, none⟩ (.slice Ao55 t427.length co55)).heap[gb409]? = some (.cells #[.int .i64 t402, .int .i64 t403, .int .i64 t404, .slice Ao36 t405.length co36] 25 (0, 0))) := ⟨by (with_reducible repeat (first | refine blk_drewN ?_ _ | refine blk_drew ?_ | refine blk_alloc ?_ _)); refine blk_far ?_ NB409_431.out _; (with_reducible repeat (first | refine blk_drewN ?_ _ | refine blk_drew ?_ | refine blk_alloc ?_ _)); refine blk_far ?_ NB409_431.out _; (with_reducible repeat (first | refine blk_drewN ?_ _ | refine blk_drew ?_ | refine blk_alloc ?_ _)); refine blk_far ?_ NB409_431.out _; (with_reducible repeat (first | refine blk_drewN ?_ _ | refine blk_drew ?_ | refine blk_alloc ?_ _)); refine blk_far ?_ NB409_431.out _; (with_reducible repeat (first | refine blk_drewN ?_ _ | refine blk_drew ?_ | refine blk_alloc ?_ _)); exact BK409.out⟩
      have n9_ : Aside0 (((((w51.setCell ⟨gb431, 0, none⟩ (.int .i64 t424)).setCell ⟨gb431, 1, none⟩ (.int .i64 t425)).setCell ⟨gb431, 2, none⟩ (.int .i64 t426)).setCell ⟨gb431, 3, none⟩ (.slice Ao55 t427.length co55)).heap[gb417]? = some (.cells #[.int .i64 t410, .int .i64 t411, .int .i64 t412, .slice Ao44 t413.length co44] 25 (0, 0))) := ⟨by (with_reducible repeat (first | refine blk_drewN ?_ _ | refine blk_drew ?_ | refine blk_alloc ?_ _)); refine blk_far ?_ NB417_431.out _; (with_reducible repeat (first | refine blk_drewN ?_ _ | refine blk_drew ?_ | refine blk_alloc ?_ _)); refine blk_far ?_ NB417_431.out _; (with_reducible repeat (first | refine blk_drewN ?_ _ | refine blk_drew ?_ | refine blk_alloc ?_ _)); refine blk_far ?_ NB417_431.out _; (with_reducible repeat (first | refine blk_drewN ?_ _ | refine blk_drew ?_ | refine blk_alloc ?_ _)); refine blk_far ?_ NB417_431.out _; (with_reducible repeat (first | refine blk_drewN ?_ _ | refine blk_drew ?_ | refine blk_alloc ?_ _)); exact BK417.out⟩
      have n10_ : Aside0 (((((w51.setCell ⟨gb431, 0, none⟩ (.int .i64 t424)).setCell ⟨gb431, 1, none⟩ (.int .i64 t425)).setCell ⟨gb431, 2, none⟩ (.int .i64 t426)).setCell ⟨gb431, 3, none⟩ (.slice Ao55 t427.length co55)).heap[gb431]? = some (.cells #[.int .i64 t424, .int .i64 t425, .int .i64 t426, .slice Ao55 t427.length co55] 25 (0, 0))) := ⟨by (with_reducible repeat (first | refine blk_drewN ?_ _ | refine blk_drew ?_ | refine blk_alloc ?_ _)); refine blk_put (cs := #[.int .i64 t424, .int .i64 t425, .int .i64 t426, .slice none 0 0]) ?_ 3 _ rfl; (with_reducible repeat (first | refine blk_drewN ?_ _ | refine blk_drew ?_ | refine blk_alloc ?_ _)); refine blk_put (cs := #[.int .i64 t424, .int .i64 t425, .int .i64 0, .slice none 0 0]) ?_ 2 _ rfl; (with_reducible repeat (first | refine blk_drewN ?_ _ | refine blk_drew ?_ | refine blk_alloc ?_ _)); refine blk_put (cs := #[.int .i64 t424, .int .i64 0, .int .i64 0, .slice none 0 0]) ?_ 1 _ rfl; (with_reducible repeat (first | refine blk_drewN ?_ _ | refine blk_drew ?_ | refine blk_alloc ?_ _)); refine blk_put (cs := #[.int .i64 0, .int .i64 0, .int .i64 0, .slice none 0 0]) ?_ 0 _ rfl; (with_reducible repeat (first | refine blk_drewN ?_ _ | refine blk_drew ?_ | refine blk_alloc ?_ _)); exact BK431.out⟩
      have n11_ : Aside0 (Below w.heap.size w ((((w51.setCell ⟨gb431, 0, none⟩ (.int .i64 t424)).setCell ⟨gb431, 1, none⟩ (.int .i64 t425)).setCell ⟨gb431, 2, none⟩ (.int .i64 t426)).setCell ⟨gb431, 3, none⟩ (.slice Ao55 t427.length co55))) := ⟨bes⟩
      (try clear HO392)
      (try clear HO399)
      (try clear HO407)
      (try clear HO415)
      (try clear HO423)
      (try clear HO429)
      (try clear BK393)
      (try clear BK401)
      (try clear BK409)
      (try clear BK417)
      (try clear BK431)
      (try clear HB)
      generalize ((((w51.setCell ⟨gb431, 0, none⟩ (.int .i64 t424)).setCell ⟨gb431, 1, none⟩ (.int .i64 t425)).setCell ⟨gb431, 2, none⟩ (.int .i64 t426)).setCell ⟨gb431, 3, none⟩ (.slice Ao55 t427.length co55)) = w65 at n0_ n1_ n2_ n3_ n4_ n5_ n6_ n7_ n8_ n9_ n10_ n11_ ⊢
      have HO392 := n0_
      have HO399 := n1_
      have HO407 := n2_
      have HO415 := n3_
      have HO423 := n4_
      have HO429 := n5_
      have BK393 := n6_
      have BK401 := n7_
      have BK409 := n8_
      have BK417 := n9_
      have BK431 := n10_
      have HB := n11_
      clear n0_ n1_ n2_ n3_ n4_ n5_ n6_ n7_ n8_ n9_ n10_ n11_
      have n0_ := Aside0.mk (Kd.R_drew HO392.out)
      have n1_ := Aside0.mk (Kd.R_drew HO399.out)
      have n2_ := Aside0.mk (Kd.R_drew HO407.out)
      have n3_ := Aside0.mk (Kd.R_drew HO415.out)
      have n4_ := Aside0.mk (Kd.R_drew HO423.out)
      have n5_ := Aside0.mk (Kd.R_drew HO429.out)
      have n6_ := Aside0.mk (blk_drew BK393.out)
      have n7_ := Aside0.mk (blk_drew BK401.out)
      have n8_ := Aside0.mk (blk_drew BK409.out)
      have n9_ := Aside0.mk (blk_drew BK417.out)
      have n10_ := Aside0.mk (blk_drew BK431.out)
      have n11_ := Aside0.mk (below_drew1 HB.out)
      clear HO392
      clear HO399
      clear HO407
      clear HO415
      clear HO423
      clear HO429
      clear BK393
      clear BK401
      clear BK409
      clear BK417
      clear BK431
      clear HB
      have HO392 := n0_
      have HO399 := n1_
      have HO407 := n2_
      have HO415 := n3_
      have HO423 := n4_
      have HO429 := n5_
      have BK393 := n6_
      have BK401 := n7_
      have BK409 := n8_
      have BK417 := n9_
      have BK431 := n10_
      have HB := n11_
      clear n0_ n1_ n2_ n3_ n4_ n5_ n6_ n7_ n8_ n9_ n10_ n11_
      refine start_ (n := 9) (S := fun w' => True) (ds := []) #[false, false, false, false, false, false, false, false, false] (by kernel_rfl) rfl rfl trivial (fun hHeld => ?_); refine with_tabW gimballaw09_MatParts.tab16 gimballaw09_MatParts.bits16 (fun HT_ HW_ => ?_)
      generalize w65.drew = w66 at HO392 HO399 HO407 HO415 HO423 HO429 BK393 BK401 BK409 BK417 BK431 HB hHeld ⊢
      refine pure_ (i := 0) (N := some 105) (v := ?_) (a' := ?_) #[true, false, false, false, false, false, false, false, false] rfl rfl (any_of HT_.out (by kernel_rfl)) (fun _ _ _ h => h) (Or.inl ⟨by rfl, ?_⟩) ?_ ?_
      rotate_left
      ·
       intro w'
       go_simp
       with_reducible rfl
      rotate_left
      ·
       simp only [Act.put, List.setIfInBounds_toArray, List.set_cons_zero, List.set_cons_succ, i64_w, i32_w]
       rfl
      refine pure_ (i := 1) (N := some 106) (v := ?_) (a' := ?_) #[true, true, false, false, false, false, false, false, false] rfl rfl (any_of HT_.out (by kernel_rfl)) (fun _ _ _ h => h) (Or.inl ⟨by rfl, ?_⟩) ?_ ?_
      rotate_left
      ·
       intro w'
       go_simp
       with_reducible rfl
      rotate_left
      ·
       simp only [Act.put, List.setIfInBounds_toArray, List.set_cons_zero, List.set_cons_succ, i64_w, i32_w]
       rfl
      refine pure_ (i := 2) (N := some 107) (v := ?_) (a' := ?_) #[true, true, true, false, false, false, false, false, false] rfl rfl (any_of HT_.out (by kernel_rfl)) (fun _ _ _ h => h) (Or.inl ⟨by rfl, ?_⟩) ?_ ?_
      rotate_left
      ·
       intro w'
       go_simp
       with_reducible rfl
      rotate_left
      ·
       simp only [Act.put, List.setIfInBounds_toArray, List.set_cons_zero, List.set_cons_succ, i64_w, i32_w]
       rfl
      refine pure_ (i := 3) (N := some 108) (v := undef) (a' := ?_) #[true, true, true, true, false, false, false, false, false] rfl rfl (any_of HT_.out (by kernel_rfl)) (fun _ _ _ h => h) (Or.inr ⟨by rfl, rfl⟩) ?_ ?_
      rotate_left
      ·
       simp only [Act.put, List.setIfInBounds_toArray, List.set_cons_zero, List.set_cons_succ, i64_w, i32_w]
       rfl
      refine pure_ (i := 4) (N := some 109) (v := undef) (a' := ?_) #[true, true, true, true, true, false, false, false, false] rfl rfl (any_of HT_.out (by kernel_rfl)) (fun _ _ _ h => h) (Or.inr ⟨by rfl, rfl⟩) ?_ ?_
      rotate_left
      ·
       simp only [Act.put, List.setIfInBounds_toArray, List.set_cons_zero, List.set_cons_succ, i64_w, i32_w]
       rfl
      refine pure_ (i := 5) (N := some 110) (v := undef) (a' := ?_) #[true, true, true, true, true, true, false, false, false] rfl rfl (any_of HT_.out (by kernel_rfl)) (fun _ _ _ h => h) (Or.inr ⟨by rfl, rfl⟩) ?_ ?_
      rotate_left
      ·
       simp only [Act.put, List.setIfInBounds_toArray, List.set_cons_zero, List.set_cons_succ, i64_w, i32_w]
       rfl
      refine pure_ (i := 6) (N := some 111) (v := undef) (a' := ?_) #[true, true, true, true, true, true, true, false, false] rfl rfl (any_of HT_.out (by kernel_rfl)) (fun _ _ _ h => h) (Or.inr ⟨by rfl, rfl⟩) ?_ ?_
      rotate_left
      ·
       simp only [Act.put, List.setIfInBounds_toArray, List.set_cons_zero, List.set_cons_succ, i64_w, i32_w]
       rfl
      refine pure_ (i := 7) (N := some 112) (v := undef) (a' := ?_) #[true, true, true, true, true, true, true, true, false] rfl rfl (any_of HT_.out (by kernel_rfl)) (fun _ _ _ h => h) (Or.inr ⟨by rfl, rfl⟩) ?_ ?_
      rotate_left
      ·
       simp only [Act.put, List.setIfInBounds_toArray, List.set_cons_zero, List.set_cons_succ, i64_w, i32_w]
       rfl
      refine pure_ (i := 8) (N := some 113) (v := ?_) (a' := ?_) #[true, true, true, true, true, true, true, true, true] rfl rfl (any_of HT_.out (by kernel_rfl)) (fun _ _ _ h => h) (Or.inl ⟨by rfl, ?_⟩) ?_ ?_
      rotate_left
      ·
       intro w'
       go_simp
       with_reducible rfl
      rotate_left
      ·
       simp only [Act.put, List.setIfInBounds_toArray, List.set_cons_zero, List.set_cons_succ, i64_w, i32_w]
       rfl
      refine done_ (done_of HT_.out (by kernel_rfl)) ?_
      try go_wp2
      go_meet
      case rel => exact ⟨_, (true), (by first | rfl | (simp; done) | (simp [*]; done)), H', ⟨by first | omega | exact Nat.le_refl _⟩, ⟨by (with_reducible repeat (first | apply Kd.R_alloc | apply Kd.R_drewN | apply Kd.R_drew)); exact Kd.R_mono HO392.out (fun _ hk => ⟨hk.1, ⟨hk.2.1, ⟨hk.2.2.1, hk.2.2.2.2⟩⟩⟩)⟩, ⟨by (with_reducible repeat (first | apply Kd.R_alloc | apply Kd.R_drewN | apply Kd.R_drew)); exact Kd.R_mono HO399.out (fun _ hk => ⟨hk.1, ⟨hk.2.1, ⟨hk.2.2.1, hk.2.2.2.2⟩⟩⟩)⟩, ⟨by (with_reducible repeat (first | apply Kd.R_alloc | apply Kd.R_drewN | apply Kd.R_drew)); exact Kd.R_mono HO407.out (fun _ hk => ⟨hk.1, ⟨hk.2.1, ⟨hk.2.2.1, hk.2.2.2.2⟩⟩⟩)⟩, ⟨by (with_reducible repeat (first | apply Kd.R_alloc | apply Kd.R_drewN | apply Kd.R_drew)); exact Kd.R_mono HO415.out (fun _ hk => ⟨hk.1, ⟨hk.2.1, ⟨hk.2.2.1, hk.2.2.2.2⟩⟩⟩)⟩, ⟨by (with_reducible repeat (first | apply Kd.R_alloc | apply Kd.R_drewN | apply Kd.R_drew)); exact Kd.R_mono HO429.out (fun _ hk => ⟨hk.1, ⟨hk.2.1, ⟨hk.2.2.1, hk.2.2.2.1⟩⟩⟩)⟩, ⟨kb BK393⟩, ⟨kb BK401⟩, ⟨kb BK409⟩, ⟨kb BK417⟩, ⟨kb BK431⟩, ⟨bes⟩⟩
    case rest =>
     clear HC20
     try clear c1
     try clear p2
     try clear c5
     try clear c16
     try clear c17
     try clear c57
     try clear c57b0
     try clear c57b1
     obtain ⟨kq, x113_19, rfl, HA, HJ19, HO_394003, HO_402003, HO_410003, HO_418003, HO_432003, BK393, BK401, BK409, BK417, BK431, HB⟩ := hcut
     cases kq with
     | zero => exact absurd HA.out (by simp [gimballaw09_MatParts.j0])
     | succ kj19 =>
      have H := HA.out
      clear HA
      simp only [gimballaw09_MatParts.j0] at H
      by_cases c67 : x113_19 = true
      ·
       subst c67
       rw [if_pos rfl] at H
       obtain rfl := Option.some.inj H
       go_wp2
       go_ret
       exact ⟨er, bes⟩
      ·
       replace c67 := Bool.eq_false_iff.mpr c67
       subst c67
       rw [if_neg (show ¬ (false = true) by decide)] at H
       by_cases c68 : t408 = t416
       ·
        rw [if_pos c68] at H
        have c68b0 : (t408 == t416) = true := beq_iff_eq.mpr c68
        have c68b1 : (t408 != t416) = false := bne_eq_false_iff_eq.mpr c68
        clear c68
        by_cases c69 : t408 = 0
        ·
         rw [if_pos c69] at H
         have c69b0 : (t408 == 0) = true := beq_iff_eq.mpr c69
         have c69b1 : (t408 != 0) = false := bne_eq_false_iff_eq.mpr c69
         clear c69
         obtain ⟨t439, A700, H⟩ := Option.bind_eq_some_iff.mp H
         (try dsimp -simprocs only at H)
         have A70 := Aside0.mk A700
         clear A700
         obtain rfl := Option.some.inj H
         have hnb71 := NB409_393.out
         have hnc71 := NB393_409.out
         have hnb72 := NB409_401.out
         have hnc72 := NB401_409.out
         have hnb73 := NB409_417.out
         have hnc73 := NB417_409.out
         have hnb74 := NB409_431.out
         have hnc74 := NB431_409.out
         have hcz75_0 : wc.cell? ⟨gb409, 0, none⟩ = some (.int .i64 t402) := (blk_cell BK409.out 0).trans rfl
         have hcz75_1 : wc.cell? ⟨gb409, 1, none⟩ = some (.int .i64 t403) := (blk_cell BK409.out 1).trans rfl
         have hcz75_2 : wc.cell? ⟨gb409, 2, none⟩ = some (.int .i64 t404) := (blk_cell BK409.out 2).trans rfl
         have hcz75_3 : wc.cell? ⟨gb409, 3, none⟩ = some (.slice Ao36 t405.length co36) := (blk_cell BK409.out 3).trans rfl
         have hfz75_0 := blk_frozen BK409.out 0
         have hfz75_1 := blk_frozen BK409.out 1
         have hfz75_2 := blk_frozen BK409.out 2
         have hfz75_3 := blk_frozen BK409.out 3
         have hnb76 := NB417_393.out
         have hnc76 := NB393_417.out
         have hnb77 := NB417_401.out
         have hnc77 := NB401_417.out
         have hnb78 := NB417_431.out
         have hnc78 := NB431_417.out
         have hcz79_0 : wc.cell? ⟨gb417, 0, none⟩ = some (.int .i64 t410) := (blk_cell BK417.out 0).trans rfl
         have hcz79_1 : wc.cell? ⟨gb417, 1, none⟩ = some (.int .i64 t411) := (blk_cell BK417.out 1).trans rfl
         have hcz79_2 : wc.cell? ⟨gb417, 2, none⟩ = some (.int .i64 t412) := (blk_cell BK417.out 2).trans rfl
         have hcz79_3 : wc.cell? ⟨gb417, 3, none⟩ = some (.slice Ao44 t413.length co44) := (blk_cell BK417.out 3).trans rfl
         have hfz79_0 := blk_frozen BK417.out 0
         have hfz79_1 := blk_frozen BK417.out 1
         have hfz79_2 := blk_frozen BK417.out 2
         have hfz79_3 := blk_frozen BK417.out 3
         go_wp2_with (first | (go_at_call 17; (with_reducible refine (mat_Matrix_Same.calls kj19 t402 t403 t404 _ _ t405 t410 t411 t412 _ _ t413 t439 _ ?side1 ?side2 ?side3 ?side4 A70.out).mono ?_); (case side1 => exact ks HO_410003); (case side2 => exact (Kd.R_reads' HO_410003.out).2.1); (case side3 => exact ks HO_418003); (case side4 => exact (Kd.R_reads' HO_418003.out).2.1); rintro e w80 ⟨rfl, hb⟩; have n0_ := Aside0.mk (Kd.R_below (kr HO_394003) hb); have n1_ := Aside0.mk (Kd.R_below (kr HO_402003) hb); have n2_ := Aside0.mk (Kd.R_below (kr HO_410003) hb); have n3_ := Aside0.mk (Kd.R_below (kr HO_418003) hb); have n4_ := Aside0.mk (Kd.R_below (kr HO_432003) hb); have n5_ := Aside0.mk (blk_below (g := gb393) (o := .cells #[.int .i64 t387, .int .i64 t388, .int .i64 t389, .slice Ao25 t390.length co25] 25 (0, 0)) (kb BK393) hb); have n6_ := Aside0.mk (blk_below (g := gb401) (o := .cells #[.int .i64 t394, .int .i64 t395, .int .i64 t396, .slice Ao30 t397.length co30] 25 (0, 0)) (kb BK401) hb); have n7_ := Aside0.mk (blk_below (g := gb409) (o := .cells #[.int .i64 t402, .int .i64 t403, .int .i64 t404, .slice Ao36 t405.length co36] 25 (0, 0)) (kb BK409) hb); have n8_ := Aside0.mk (blk_below (g := gb417) (o := .cells #[.int .i64 t410, .int .i64 t411, .int .i64 t412, .slice Ao44 t413.length co44] 25 (0, 0)) (kb BK417) hb); have n9_ := Aside0.mk (blk_below (g := gb431) (o := .cells #[.int .i64 t424, .int .i64 t425, .int .i64 t426, .slice Ao55 t427.length co55] 25 (0, 0)) (kb BK431) hb); have n10_ := Aside0.mk (below_step bes hb); clear HO_394003; clear HO_402003; clear HO_410003; clear HO_418003; clear HO_432003; clear BK393; clear BK401; clear BK409; clear BK417; clear BK431; clear HB; have HO_394003 := n0_; have HO_402003 := n1_; have HO_410003 := n2_; have HO_418003 := n3_; have HO_432003 := n4_; have BK393 := n5_; have BK401 := n6_; have BK409 := n7_; have BK417 := n8_; have BK431 := n9_; have HB := n10_; clear n0_ n1_ n2_ n3_ n4_ n5_ n6_ n7_ n8_ n9_ n10_; (try clear hb)))
         go_ret
         exact ⟨er, bes⟩
        ·
         rw [if_neg c69] at H
         have c69b0 : (t408 == 0) = false := beq_eq_false_iff_ne.mpr c69
         have c69b1 : (t408 != 0) = true := bne_iff_ne.mpr c69
         obtain rfl := Option.some.inj H
         go_wp2
         go_ret
         exact ⟨er, bes⟩
       ·
        rw [if_neg c68] at H
        have c68b0 : (t408 == t416) = false := beq_eq_false_iff_ne.mpr c68
        have c68b1 : (t408 != t416) = true := bne_iff_ne.mpr c68
        obtain rfl := Option.some.inj H
        go_wp2
        go_ret
        exact ⟨er, bes⟩
   ·
    rw [if_neg c17] at H
    have c17b0 : (t400 == 0) = false := beq_eq_false_iff_ne.mpr c17
    have c17b1 : (t400 != 0) = true := bne_iff_ne.mpr c17
    by_cases c81 : (Go.bits .and .i64 a4 3) > t387
    ·
     rw [if_pos c81] at H
     have c81b0 : decide (t387 < (Go.bits .and .i64 a4 3)) = true := decide_eq_true c81
     clear c81
     obtain rfl := Option.some.inj H
     go_enter Try.func6, Try.ntmps6
     go_wp2_with (first | ((with_reducible refine gate_callee (f := 7) rfl ?_); refine goesL_ (some 26) rfl rfl Try.func7 (by kernel_rfl) rfl #[] rfl ga ?_; (with_reducible refine (gimballaw09_head.calls k  true _ A9.out).mono ?_); rintro e w82 ⟨rfl, hb⟩; refine ⟨_, rfl, ?_⟩; have n0_ := Aside0.mk (below_step bel hb); clear HB; have HB := n0_; clear n0_; (try clear hb)) | ((with_reducible refine gate_callee (f := 8) rfl ?_); refine goesL_ (some 35) rfl rfl Try.func8 (by kernel_rfl) rfl #[.int .i64 a0, .int .i64 a1, .int .i64 a2, .slice A3 l3.length c3] rfl ga ?_; (with_reducible refine (gimballaw09_Made.calls k a0 a1 a2 _ _ l3 t387 t388 t389 t390 _ ?side1 ?side2 A13.out).mono ?_); (case side1 => repeat (first | exact (Kd.C_below HR3.out HB.out) | (with_reducible refine Kd.C_alloc ?_ _) | (with_reducible refine Kd.C_drewN ?_ _) | (with_reducible refine Kd.C_drew ?_))); (case side2 => exact HC3.out); rintro e w83 ⟨v391, rfl, ho0, hb⟩; refine ⟨_, rfl, ?_⟩; have n0_ := Aside0.mk (Kd.R_lower ho0 (below_size bel)); have n1_ := Aside0.mk (below_step bel hb); clear HB; have HO392 := n0_; have HB := n1_; clear n0_ n1_; (try clear hb); (try clear ho0)) | ((with_reducible refine gate_dst (N := 17) rfl ?_); refine box_event ?hg (N := 17) ?hd (cs := #[.int .i64 0, .int .i64 0, .int .i64 0, .slice none 0 0]) (t := 25) ?hr ?_; (case hd => rfl); (case hg => rfl); (case hr => first | (go_simp; done) | (go_simp; rfl)); intro gb393 hg w84 hbox hb; have n0_ := Aside0.mk (Kd.R_below (kr HO392) hb); have n1_ := Aside0.mk (below_step bel hb); have n2_ := Aside0.mk (hbox); have n3_ := Aside0.mk ((by rw [hg]; exact (below_size bel) : w.heap.size ≤ gb393)); have n4_ := Aside0.mk ((by rw [hg]; exact (below_size bel) : w.heap.size ≤ gb393)); clear HO392; clear HB; have HO392 := n0_; have HB := n1_; have BK393 := n2_; have GW393 := n3_; have GE393 := n4_; clear n0_ n1_ n2_ n3_ n4_; clear hb hbox hg; have hcz85_0 : w84.cell? ⟨gb393, 0, none⟩ = some (.int .i64 0) := (blk_cell BK393.out 0).trans rfl; have hcz85_1 : w84.cell? ⟨gb393, 1, none⟩ = some (.int .i64 0) := (blk_cell BK393.out 1).trans rfl; have hcz85_2 : w84.cell? ⟨gb393, 2, none⟩ = some (.int .i64 0) := (blk_cell BK393.out 2).trans rfl; have hcz85_3 : w84.cell? ⟨gb393, 3, none⟩ = some (.slice none 0 0) := (blk_cell BK393.out 3).trans rfl; have hfz85_0 := blk_frozen BK393.out 0; have hfz85_1 := blk_frozen BK393.out 1; have hfz85_2 := blk_frozen BK393.out 2; have hfz85_3 := blk_frozen BK393.out 3; obtain ⟨Ao86, co86, eo86⟩ := Kd.R_slice HO392.out; subst eo86) | ((with_reducible refine gate_callee (f := 13) rfl ?_); refine goesL_ (some 56) rfl rfl Try.func13 (by kernel_rfl) rfl #[.agg #[.int .i64 t387, .int .i64 t388, .int .i64 t389, .slice Ao86 t390.length co86], .int .i64 (Go.bits .and .i64 a4 3), .int .i64 (Go.bits .and .i64 a5 3), .int .i64 (wrap64 (t387 - (Go.bits .and .i64 a4 3))), .int .i64 (wrap64 (t388 - (Go.bits .and .i64 a5 3)))] rfl ga ?_; (with_reducible refine (mat_Matrix_Cut.calls k t387 t388 t389 _ _ t390 (Go.bits .and .i64 a4 3) (Go.bits .and .i64 a5 3) (wrap64 (t387 - (Go.bits .and .i64 a4 3))) (wrap64 (t388 - (Go.bits .and .i64 a5 3))) t394 t395 t396 t397 t400 _ ?side1 ?side2 A14.out).mono ?_); (case side1 => refine (Kd.R_reads' (e := 30) (base := w.heap.size) (ok := fun k_ => True) (n := t390.length) (c := co86) ?_).2.2; exact (by (with_reducible repeat (first | apply Kd.R_alloc | apply Kd.R_drewN | apply Kd.R_drew)); exact (Kd.R_mono (Kd.R_far (p := ⟨gb393, 3, none⟩) (Kd.R_far (p := ⟨gb393, 2, none⟩) (Kd.R_far (p := ⟨gb393, 1, none⟩) (Kd.R_far (p := ⟨gb393, 0, none⟩) (Kd.R_types HO392.out BK393.out (by decide)) (fun _ hk => hk.2) (.int .i64 t387)) (fun _ hk => hk.2) (.int .i64 t388)) (fun _ hk => hk.2) (.int .i64 t389)) (fun _ hk => hk.2) (.slice Ao86 t390.length co86)) (fun _ h_ => h_.1)))); (case side2 => exact (Kd.R_reads' HO392.out).2.1); rintro e w87 ⟨v398, rfl, ho0, hb⟩; refine ⟨_, rfl, ?_⟩; have n0_ := Aside0.mk (Kd.R_elder' (by (with_reducible repeat (first | apply Kd.R_alloc | apply Kd.R_drewN | apply Kd.R_drew)); exact (Kd.R_mono (Kd.R_far (p := ⟨gb393, 3, none⟩) (Kd.R_far (p := ⟨gb393, 2, none⟩) (Kd.R_far (p := ⟨gb393, 1, none⟩) (Kd.R_far (p := ⟨gb393, 0, none⟩) (Kd.R_types HO392.out BK393.out (by decide)) (fun _ hk => hk.2) (.int .i64 t387)) (fun _ hk => hk.2) (.int .i64 t388)) (fun _ hk => hk.2) (.int .i64 t389)) (fun _ hk => hk.2) (.slice Ao86 t390.length co86)) (fun _ h_ => h_.1))) (Kd.R_base ho0) hb); have n1_ := Aside0.mk (Kd.R_lower (Kd.R_new' ho0 (Kd.R_lt (by (with_reducible repeat (first | apply Kd.R_alloc | apply Kd.R_drewN | apply Kd.R_drew)); exact (Kd.R_mono (Kd.R_far (p := ⟨gb393, 3, none⟩) (Kd.R_far (p := ⟨gb393, 2, none⟩) (Kd.R_far (p := ⟨gb393, 1, none⟩) (Kd.R_far (p := ⟨gb393, 0, none⟩) (Kd.R_types HO392.out BK393.out (by decide)) (fun _ hk => hk.2) (.int .i64 t387)) (fun _ hk => hk.2) (.int .i64 t388)) (fun _ hk => hk.2) (.int .i64 t389)) (fun _ hk => hk.2) (.slice Ao86 t390.length co86)) (fun _ h_ => h_.1))))) (below_size bes)); have n2_ := Aside0.mk (blk_below (g := gb393) (o := .cells #[.int .i64 t387, .int .i64 t388, .int .i64 t389, .slice Ao86 t390.length co86] 25 (0, 0)) (by (with_reducible repeat (first | refine blk_drewN ?_ _ | refine blk_drew ?_ | refine blk_alloc ?_ _)); refine blk_put (cs := #[.int .i64 t387, .int .i64 t388, .int .i64 t389, .slice none 0 0]) ?_ 3 _ rfl; (with_reducible repeat (first | refine blk_drewN ?_ _ | refine blk_drew ?_ | refine blk_alloc ?_ _)); refine blk_put (cs := #[.int .i64 t387, .int .i64 t388, .int .i64 0, .slice none 0 0]) ?_ 2 _ rfl; (with_reducible repeat (first | refine blk_drewN ?_ _ | refine blk_drew ?_ | refine blk_alloc ?_ _)); refine blk_put (cs := #[.int .i64 t387, .int .i64 0, .int .i64 0, .slice none 0 0]) ?_ 1 _ rfl; (with_reducible repeat (first | refine blk_drewN ?_ _ | refine blk_drew ?_ | refine blk_alloc ?_ _)); refine blk_put (cs := #[.int .i64 0, .int .i64 0, .int .i64 0, .slice none 0 0]) ?_ 0 _ rfl; (with_reducible repeat (first | refine blk_drewN ?_ _ | refine blk_drew ?_ | refine blk_alloc ?_ _)); exact BK393.out) hb); have n3_ := Aside0.mk (below_step bes hb); clear HO392; clear BK393; clear HB; have HO392 := n0_; have HO399 := n1_; have BK393 := n2_; have HB := n3_; clear n0_ n1_ n2_ n3_; (try clear hb); (try clear ho0)) | ((with_reducible refine gate_dst (N := 18) rfl ?_); refine box_event ?hg (N := 18) ?hd (cs := #[.int .i64 0, .int .i64 0, .int .i64 0, .slice none 0 0]) (t := 25) ?hr ?_; (case hd => rfl); (case hg => rfl); (case hr => first | (go_simp; done) | (go_simp; rfl)); intro gb401 hg w88 hbox hb; have n0_ := Aside0.mk (Kd.R_below (kr HO392) hb); have n1_ := Aside0.mk (Kd.R_below (kr HO399) hb); have n2_ := Aside0.mk (blk_below (g := gb393) (o := .cells #[.int .i64 t387, .int .i64 t388, .int .i64 t389, .slice Ao86 t390.length co86] 25 (0, 0)) (kb BK393) hb); have n3_ := Aside0.mk (below_step bes hb); have n4_ := Aside0.mk (hbox); have n5_ := Aside0.mk ((by rw [hg]; exact (below_size bes) : w.heap.size ≤ gb401)); have n6_ := Aside0.mk ((by rw [hg]; exact (below_size bes) : w.heap.size ≤ gb401)); have n7_ := Aside0.mk ((by rw [hg]; exact Nat.ne_of_lt (blk_lt (g := gb393) (o := .cells #[.int .i64 t387, .int .i64 t388, .int .i64 t389, .slice Ao86 t390.length co86] 25 (0, 0)) (kb BK393)) : gb393 ≠ gb401)); have n8_ := Aside0.mk ((by rw [hg]; exact Nat.ne_of_gt (blk_lt (g := gb393) (o := .cells #[.int .i64 t387, .int .i64 t388, .int .i64 t389, .slice Ao86 t390.length co86] 25 (0, 0)) (kb BK393)) : gb401 ≠ gb393)); clear HO392; clear HO399; clear BK393; clear HB; have HO392 := n0_; have HO399 := n1_; have BK393 := n2_; have HB := n3_; have BK401 := n4_; have GW401 := n5_; have GE401 := n6_; have NB393_401 := n7_; have NB401_393 := n8_; clear n0_ n1_ n2_ n3_ n4_ n5_ n6_ n7_ n8_; clear hb hbox hg; have hnb89 := NB401_393.out; have hnc89 := NB393_401.out; have hcz90_0 : w88.cell? ⟨gb401, 0, none⟩ = some (.int .i64 0) := (blk_cell BK401.out 0).trans rfl; have hcz90_1 : w88.cell? ⟨gb401, 1, none⟩ = some (.int .i64 0) := (blk_cell BK401.out 1).trans rfl; have hcz90_2 : w88.cell? ⟨gb401, 2, none⟩ = some (.int .i64 0) := (blk_cell BK401.out 2).trans rfl; have hcz90_3 : w88.cell? ⟨gb401, 3, none⟩ = some (.slice none 0 0) := (blk_cell BK401.out 3).trans rfl; have hfz90_0 := blk_frozen BK401.out 0; have hfz90_1 := blk_frozen BK401.out 1; have hfz90_2 := blk_frozen BK401.out 2; have hfz90_3 := blk_frozen BK401.out 3; obtain ⟨Ao91, co91, eo91⟩ := Kd.R_slice HO399.out; subst eo91) | ((with_reducible refine gate_callee (f := 13) rfl ?_); refine goesL_ (some 63) rfl rfl Try.func13 (by kernel_rfl) rfl #[.agg #[.int .i64 t394, .int .i64 t395, .int .i64 t396, .slice Ao91 t397.length co91], .int .i64 (Go.bits .and .i64 a6 3), .int .i64 (Go.bits .and .i64 a7 3), .int .i64 1, .int .i64 1] rfl ga ?_; (with_reducible refine (mat_Matrix_Cut.calls k t394 t395 t396 _ _ t397 (Go.bits .and .i64 a6 3) (Go.bits .and .i64 a7 3) 1 1 t402 t403 t404 t405 t408 _ ?side1 ?side2 A15.out).mono ?_); (case side1 => refine (Kd.R_reads' (e := 30) (base := w.heap.size) (ok := fun k_ => (True ∧ some k_ ≠ (.slice Ao86 t390.length co86 : Value).ownBlock)) (n := t397.length) (c := co91) ?_).2.2; exact (by (with_reducible repeat (first | apply Kd.R_alloc | apply Kd.R_drewN | apply Kd.R_drew)); exact (Kd.R_mono (Kd.R_far (p := ⟨gb401, 3, none⟩) (Kd.R_far (p := ⟨gb401, 2, none⟩) (Kd.R_far (p := ⟨gb401, 1, none⟩) (Kd.R_far (p := ⟨gb401, 0, none⟩) (Kd.R_types HO399.out BK401.out (by decide)) (fun _ hk => hk.2) (.int .i64 t394)) (fun _ hk => hk.2) (.int .i64 t395)) (fun _ hk => hk.2) (.int .i64 t396)) (fun _ hk => hk.2) (.slice Ao91 t397.length co91)) (fun _ h_ => h_.1)))); (case side2 => exact (Kd.R_reads' HO399.out).2.1); rintro e w92 ⟨v406, rfl, ho0, hb⟩; refine ⟨_, rfl, ?_⟩; have n0_ := Aside0.mk (Kd.R_elder' (by (with_reducible repeat (first | apply Kd.R_alloc | apply Kd.R_drewN | apply Kd.R_drew)); exact (Kd.R_mono (Kd.R_far (p := ⟨gb401, 3, none⟩) (Kd.R_far (p := ⟨gb401, 2, none⟩) (Kd.R_far (p := ⟨gb401, 1, none⟩) (Kd.R_far (p := ⟨gb401, 0, none⟩) (Kd.R_types HO392.out BK401.out (by decide)) (fun _ hk => hk.2) (.int .i64 t394)) (fun _ hk => hk.2) (.int .i64 t395)) (fun _ hk => hk.2) (.int .i64 t396)) (fun _ hk => hk.2) (.slice Ao91 t397.length co91)) (fun _ h_ => h_.1))) (Kd.R_base ho0) hb); have n1_ := Aside0.mk (Kd.R_elder' (by (with_reducible repeat (first | apply Kd.R_alloc | apply Kd.R_drewN | apply Kd.R_drew)); exact (Kd.R_mono (Kd.R_far (p := ⟨gb401, 3, none⟩) (Kd.R_far (p := ⟨gb401, 2, none⟩) (Kd.R_far (p := ⟨gb401, 1, none⟩) (Kd.R_far (p := ⟨gb401, 0, none⟩) (Kd.R_types HO399.out BK401.out (by decide)) (fun _ hk => hk.2) (.int .i64 t394)) (fun _ hk => hk.2) (.int .i64 t395)) (fun _ hk => hk.2) (.int .i64 t396)) (fun _ hk => hk.2) (.slice Ao91 t397.length co91)) (fun _ h_ => h_.1))) (Kd.R_base ho0) hb); have n2_ := Aside0.mk (Kd.R_lower (Kd.R_new' (Kd.R_new' ho0 (Kd.R_lt (by (with_reducible repeat (first | apply Kd.R_alloc | apply Kd.R_drewN | apply Kd.R_drew)); exact (Kd.R_mono (Kd.R_far (p := ⟨gb401, 3, none⟩) (Kd.R_far (p := ⟨gb401, 2, none⟩) (Kd.R_far (p := ⟨gb401, 1, none⟩) (Kd.R_far (p := ⟨gb401, 0, none⟩) (Kd.R_types HO392.out BK401.out (by decide)) (fun _ hk => hk.2) (.int .i64 t394)) (fun _ hk => hk.2) (.int .i64 t395)) (fun _ hk => hk.2) (.int .i64 t396)) (fun _ hk => hk.2) (.slice Ao91 t397.length co91)) (fun _ h_ => h_.1))))) (Kd.R_lt (by (with_reducible repeat (first | apply Kd.R_alloc | apply Kd.R_drewN | apply Kd.R_drew)); exact (Kd.R_mono (Kd.R_far (p := ⟨gb401, 3, none⟩) (Kd.R_far (p := ⟨gb401, 2, none⟩) (Kd.R_far (p := ⟨gb401, 1, none⟩) (Kd.R_far (p := ⟨gb401, 0, none⟩) (Kd.R_types HO399.out BK401.out (by decide)) (fun _ hk => hk.2) (.int .i64 t394)) (fun _ hk => hk.2) (.int .i64 t395)) (fun _ hk => hk.2) (.int .i64 t396)) (fun _ hk => hk.2) (.slice Ao91 t397.length co91)) (fun _ h_ => h_.1))))) (below_size bes)); have n3_ := Aside0.mk (blk_below (g := gb393) (o := .cells #[.int .i64 t387, .int .i64 t388, .int .i64 t389, .slice Ao86 t390.length co86] 25 (0, 0)) (by (with_reducible repeat (first | refine blk_drewN ?_ _ | refine blk_drew ?_ | refine blk_alloc ?_ _)); refine blk_far ?_ NB393_401.out _; (with_reducible repeat (first | refine blk_drewN ?_ _ | refine blk_drew ?_ | refine blk_alloc ?_ _)); refine blk_far ?_ NB393_401.out _; (with_reducible repeat (first | refine blk_drewN ?_ _ | refine blk_drew ?_ | refine blk_alloc ?_ _)); refine blk_far ?_ NB393_401.out _; (with_reducible repeat (first | refine blk_drewN ?_ _ | refine blk_drew ?_ | refine blk_alloc ?_ _)); refine blk_far ?_ NB393_401.out _; (with_reducible repeat (first | refine blk_drewN ?_ _ | refine blk_drew ?_ | refine blk_alloc ?_ _)); exact BK393.out) hb); have n4_ := Aside0.mk (blk_below (g := gb401) (o := .cells #[.int .i64 t394, .int .i64 t395, .int .i64 t396, .slice Ao91 t397.length co91] 25 (0, 0)) (by (with_reducible repeat (first | refine blk_drewN ?_ _ | refine blk_drew ?_ | refine blk_alloc ?_ _)); refine blk_put (cs := #[.int .i64 t394, .int .i64 t395, .int .i64 t396, .slice none 0 0]) ?_ 3 _ rfl; (with_reducible repeat (first | refine blk_drewN ?_ _ | refine blk_drew ?_ | refine blk_alloc ?_ _)); refine blk_put (cs := #[.int .i64 t394, .int .i64 t395, .int .i64 0, .slice none 0 0]) ?_ 2 _ rfl; (with_reducible repeat (first | refine blk_drewN ?_ _ | refine blk_drew ?_ | refine blk_alloc ?_ _)); refine blk_put (cs := #[.int .i64 t394, .int .i64 0, .int .i64 0, .slice none 0 0]) ?_ 1 _ rfl; (with_reducible repeat (first | refine blk_drewN ?_ _ | refine blk_drew ?_ | refine blk_alloc ?_ _)); refine blk_put (cs := #[.int .i64 0, .int .i64 0, .int .i64 0, .slice none 0 0]) ?_ 0 _ rfl; (with_reducible repeat (first | refine blk_drewN ?_ _ | refine blk_drew ?_ | refine blk_alloc ?_ _)); exact BK401.out) hb); have n5_ := Aside0.mk (below_step bes hb); clear HO392; clear HO399; clear BK393; clear BK401; clear HB; have HO392 := n0_; have HO399 := n1_; have HO407 := n2_; have BK393 := n3_; have BK401 := n4_; have HB := n5_; clear n0_ n1_ n2_ n3_ n4_ n5_; (try clear hb); (try clear ho0)) | ((with_reducible refine gate_dst (N := 20) rfl ?_); refine box_event ?hg (N := 20) ?hd (cs := #[.int .i64 0, .int .i64 0, .int .i64 0, .slice none 0 0]) (t := 25) ?hr ?_; (case hd => rfl); (case hg => rfl); (case hr => first | (go_simp; done) | (go_simp; rfl)); intro gb409 hg w93 hbox hb; have n0_ := Aside0.mk (Kd.R_below (kr HO392) hb); have n1_ := Aside0.mk (Kd.R_below (kr HO399) hb); have n2_ := Aside0.mk (Kd.R_below (kr HO407) hb); have n3_ := Aside0.mk (blk_below (g := gb393) (o := .cells #[.int .i64 t387, .int .i64 t388, .int .i64 t389, .slice Ao86 t390.length co86] 25 (0, 0)) (kb BK393) hb); have n4_ := Aside0.mk (blk_below (g := gb401) (o := .cells #[.int .i64 t394, .int .i64 t395, .int .i64 t396, .slice Ao91 t397.length co91] 25 (0, 0)) (kb BK401) hb); have n5_ := Aside0.mk (below_step bes hb); have n6_ := Aside0.mk (hbox); have n7_ := Aside0.mk ((by rw [hg]; exact (below_size bes) : w.heap.size ≤ gb409)); have n8_ := Aside0.mk ((by rw [hg]; exact (below_size bes) : w.heap.size ≤ gb409)); have n9_ := Aside0.mk ((by rw [hg]; exact Nat.ne_of_lt (blk_lt (g := gb393) (o := .cells #[.int .i64 t387, .int .i64 t388, .int .i64 t389, .slice Ao86 t390.length co86] 25 (0, 0)) (kb BK393)) : gb393 ≠ gb409)); have n10_ := Aside0.mk ((by rw [hg]; exact Nat.ne_of_gt (blk_lt (g := gb393) (o := .cells #[.int .i64 t387, .int .i64 t388, .int .i64 t389, .slice Ao86 t390.length co86] 25 (0, 0)) (kb BK393)) : gb409 ≠ gb393)); have n11_ := Aside0.mk ((by rw [hg]; exact Nat.ne_of_lt (blk_lt (g := gb401) (o := .cells #[.int .i64 t394, .int .i64 t395, .int .i64 t396, .slice Ao91 t397.length co91] 25 (0, 0)) (kb BK401)) : gb401 ≠ gb409)); have n12_ := Aside0.mk ((by rw [hg]; exact Nat.ne_of_gt (blk_lt (g := gb401) (o := .cells #[.int .i64 t394, .int .i64 t395, .int .i64 t396, .slice Ao91 t397.length co91] 25 (0, 0)) (kb BK401)) : gb409 ≠ gb401)); clear HO392; clear HO399; clear HO407; clear BK393; clear BK401; clear HB; have HO392 := n0_; have HO399 := n1_; have HO407 := n2_; have BK393 := n3_; have BK401 := n4_; have HB := n5_; have BK409 := n6_; have GW409 := n7_; have GE409 := n8_; have NB393_409 := n9_; have NB409_393 := n10_; have NB401_409 := n11_; have NB409_401 := n12_; clear n0_ n1_ n2_ n3_ n4_ n5_ n6_ n7_ n8_ n9_ n10_ n11_ n12_; clear hb hbox hg; have hnb94 := NB409_393.out; have hnc94 := NB393_409.out; have hnb95 := NB409_401.out; have hnc95 := NB401_409.out; have hcz96_0 : w93.cell? ⟨gb409, 0, none⟩ = some (.int .i64 0) := (blk_cell BK409.out 0).trans rfl; have hcz96_1 : w93.cell? ⟨gb409, 1, none⟩ = some (.int .i64 0) := (blk_cell BK409.out 1).trans rfl; have hcz96_2 : w93.cell? ⟨gb409, 2, none⟩ = some (.int .i64 0) := (blk_cell BK409.out 2).trans rfl; have hcz96_3 : w93.cell? ⟨gb409, 3, none⟩ = some (.slice none 0 0) := (blk_cell BK409.out 3).trans rfl; have hfz96_0 := blk_frozen BK409.out 0; have hfz96_1 := blk_frozen BK409.out 1; have hfz96_2 := blk_frozen BK409.out 2; have hfz96_3 := blk_frozen BK409.out 3; obtain ⟨Ao97, co97, eo97⟩ := Kd.R_slice HO407.out; subst eo97; have hcz98_0 : w93.cell? ⟨gb393, 0, none⟩ = some (.int .i64 t387) := (blk_cell BK393.out 0).trans rfl; have hcz98_1 : w93.cell? ⟨gb393, 1, none⟩ = some (.int .i64 t388) := (blk_cell BK393.out 1).trans rfl; have hcz98_2 : w93.cell? ⟨gb393, 2, none⟩ = some (.int .i64 t389) := (blk_cell BK393.out 2).trans rfl; have hcz98_3 : w93.cell? ⟨gb393, 3, none⟩ = some (.slice Ao86 t390.length co86) := (blk_cell BK393.out 3).trans rfl; have hfz98_0 := blk_frozen BK393.out 0; have hfz98_1 := blk_frozen BK393.out 1; have hfz98_2 := blk_frozen BK393.out 2; have hfz98_3 := blk_frozen BK393.out 3) | ((with_reducible refine gate_callee (f := 13) rfl ?_); refine goesL_ (some 74) rfl rfl Try.func13 (by kernel_rfl) rfl #[.agg #[.int .i64 t387, .int .i64 t388, .int .i64 t389, .slice Ao86 t390.length co86], .int .i64 (wrap64 ((Go.bits .and .i64 a4 3) + (Go.bits .and .i64 a6 3))), .int .i64 (wrap64 ((Go.bits .and .i64 a5 3) + (Go.bits .and .i64 a7 3))), .int .i64 1, .int .i64 1] rfl ga ?_; (with_reducible refine (mat_Matrix_Cut.calls k t387 t388 t389 _ _ t390 (wrap64 ((Go.bits .and .i64 a4 3) + (Go.bits .and .i64 a6 3))) (wrap64 ((Go.bits .and .i64 a5 3) + (Go.bits .and .i64 a7 3))) 1 1 t410 t411 t412 t413 t416 _ ?side1 ?side2 A16.out).mono ?_); (case side1 => refine (Kd.R_reads' (e := 30) (base := w.heap.size) (ok := fun k_ => ((True ∧ some k_ ≠ (.slice Ao91 t397.length co91 : Value).ownBlock) ∧ some k_ ≠ (.slice Ao97 t405.length co97 : Value).ownBlock)) (n := t390.length) (c := co86) ?_).2.2; exact (by (with_reducible repeat (first | apply Kd.R_alloc | apply Kd.R_drewN | apply Kd.R_drew)); exact (Kd.R_mono (Kd.R_far (p := ⟨gb409, 3, none⟩) (Kd.R_far (p := ⟨gb409, 2, none⟩) (Kd.R_far (p := ⟨gb409, 1, none⟩) (Kd.R_far (p := ⟨gb409, 0, none⟩) (Kd.R_types HO392.out BK409.out (by decide)) (fun _ hk => hk.2) (.int .i64 t402)) (fun _ hk => hk.2) (.int .i64 t403)) (fun _ hk => hk.2) (.int .i64 t404)) (fun _ hk => hk.2) (.slice Ao97 t405.length co97)) (fun _ h_ => h_.1)))); (case side2 => exact (Kd.R_reads' HO392.out).2.1); rintro e w99 ⟨v414, rfl, ho0, hb⟩; refine ⟨_, rfl, ?_⟩; have n0_ := Aside0.mk (Kd.R_elder' (by (with_reducible repeat (first | apply Kd.R_alloc | apply Kd.R_drewN | apply Kd.R_drew)); exact (Kd.R_mono (Kd.R_far (p := ⟨gb409, 3, none⟩) (Kd.R_far (p := ⟨gb409, 2, none⟩) (Kd.R_far (p := ⟨gb409, 1, none⟩) (Kd.R_far (p := ⟨gb409, 0, none⟩) (Kd.R_types HO392.out BK409.out (by decide)) (fun _ hk => hk.2) (.int .i64 t402)) (fun _ hk => hk.2) (.int .i64 t403)) (fun _ hk => hk.2) (.int .i64 t404)) (fun _ hk => hk.2) (.slice Ao97 t405.length co97)) (fun _ h_ => h_.1))) (Kd.R_base ho0) hb); have n1_ := Aside0.mk (Kd.R_elder' (by (with_reducible repeat (first | apply Kd.R_alloc | apply Kd.R_drewN | apply Kd.R_drew)); exact (Kd.R_mono (Kd.R_far (p := ⟨gb409, 3, none⟩) (Kd.R_far (p := ⟨gb409, 2, none⟩) (Kd.R_far (p := ⟨gb409, 1, none⟩) (Kd.R_far (p := ⟨gb409, 0, none⟩) (Kd.R_types HO399.out BK409.out (by decide)) (fun _ hk => hk.2) (.int .i64 t402)) (fun _ hk => hk.2) (.int .i64 t403)) (fun _ hk => hk.2) (.int .i64 t404)) (fun _ hk => hk.2) (.slice Ao97 t405.length co97)) (fun _ h_ => h_.1))) (Kd.R_base ho0) hb); have n2_ := Aside0.mk (Kd.R_elder' (by (with_reducible repeat (first | apply Kd.R_alloc | apply Kd.R_drewN | apply Kd.R_drew)); exact (Kd.R_mono (Kd.R_far (p := ⟨gb409, 3, none⟩) (Kd.R_far (p := ⟨gb409, 2, none⟩) (Kd.R_far (p := ⟨gb409, 1, none⟩) (Kd.R_far (p := ⟨gb409, 0, none⟩) (Kd.R_types HO407.out BK409.out (by decide)) (fun _ hk => hk.2) (.int .i64 t402)) (fun _ hk => hk.2) (.int .i64 t403)) (fun _ hk => hk.2) (.int .i64 t404)) (fun _ hk => hk.2) (.slice Ao97 t405.length co97)) (fun _ h_ => h_.1))) (Kd.R_base ho0) hb); have n3_ := Aside0.mk (Kd.R_lower (Kd.R_new' (Kd.R_new' (Kd.R_new' ho0 (Kd.R_lt (by (with_reducible repeat (first | apply Kd.R_alloc | apply Kd.R_drewN | apply Kd.R_drew)); exact (Kd.R_mono (Kd.R_far (p := ⟨gb409, 3, none⟩) (Kd.R_far (p := ⟨gb409, 2, none⟩) (Kd.R_far (p := ⟨gb409, 1, none⟩) (Kd.R_far (p := ⟨gb409, 0, none⟩) (Kd.R_types HO392.out BK409.out (by decide)) (fun _ hk => hk.2) (.int .i64 t402)) (fun _ hk => hk.2) (.int .i64 t403)) (fun _ hk => hk.2) (.int .i64 t404)) (fun _ hk => hk.2) (.slice Ao97 t405.length co97)) (fun _ h_ => h_.1))))) (Kd.R_lt (by (with_reducible repeat (first | apply Kd.R_alloc | apply Kd.R_drewN | apply Kd.R_drew)); exact (Kd.R_mono (Kd.R_far (p := ⟨gb409, 3, none⟩) (Kd.R_far (p := ⟨gb409, 2, none⟩) (Kd.R_far (p := ⟨gb409, 1, none⟩) (Kd.R_far (p := ⟨gb409, 0, none⟩) (Kd.R_types HO399.out BK409.out (by decide)) (fun _ hk => hk.2) (.int .i64 t402)) (fun _ hk => hk.2) (.int .i64 t403)) (fun _ hk => hk.2) (.int .i64 t404)) (fun _ hk => hk.2) (.slice Ao97 t405.length co97)) (fun _ h_ => h_.1))))) (Kd.R_lt (by (with_reducible repeat (first | apply Kd.R_alloc | apply Kd.R_drewN | apply Kd.R_drew)); exact (Kd.R_mono (Kd.R_far (p := ⟨gb409, 3, none⟩) (Kd.R_far (p := ⟨gb409, 2, none⟩) (Kd.R_far (p := ⟨gb409, 1, none⟩) (Kd.R_far (p := ⟨gb409, 0, none⟩) (Kd.R_types HO407.out BK409.out (by decide)) (fun _ hk => hk.2) (.int .i64 t402)) (fun _ hk => hk.2) (.int .i64 t403)) (fun _ hk => hk.2) (.int .i64 t404)) (fun _ hk => hk.2) (.slice Ao97 t405.length co97)) (fun _ h_ => h_.1))))) (below_size bes)); have n4_ := Aside0.mk (blk_below (g := gb393) (o := .cells #[.int .i64 t387, .int .i64 t388, .int .i64 t389, .slice Ao86 t390.length co86] 25 (0, 0)) (by (with_reducible repeat (first | refine blk_drewN ?_ _ | refine blk_drew ?_ | refine blk_alloc ?_ _)); refine blk_far ?_ NB393_409.out _; (with_reducible repeat (first | refine blk_drewN ?_ _ | refine blk_drew ?_ | refine blk_alloc ?_ _)); refine blk_far ?_ NB393_409.out _; (with_reducible repeat (first | refine blk_drewN ?_ _ | refine blk_drew ?_ | refine blk_alloc ?_ _)); refine blk_far ?_ NB393_409.out _; (with_reducible repeat (first | refine blk_drewN ?_ _ | refine blk_drew ?_ | refine blk_alloc ?_ _)); refine blk_far ?_ NB393_409.out _; (with_reducible repeat (first | refine blk_drewN ?_ _ | refine blk_drew ?_ | refine blk_alloc ?_ _)); exact BK393.out) hb); have n5_ := Aside0.mk (blk_below (g := gb401) (o := .cells #[.int .i64 t394, .int .i64 t395, .int .i64 t396, .slice Ao91 t397.length co91] 25 (0, 0)) (by (with_reducible repeat (first | refine blk_drewN ?_ _ | refine blk_drew ?_ | refine blk_alloc ?_ _)); refine blk_far ?_ NB401_409.out _; (with_reducible repeat (first | refine blk_drewN ?_ _ | refine blk_drew ?_ | refine blk_alloc ?_ _)); refine blk_far ?_ NB401_409.out _; (with_reducible repeat (first | refine blk_drewN ?_ _ | refine blk_drew ?_ | refine blk_alloc ?_ _)); refine blk_far ?_ NB401_409.out _; (with_reducible repeat (first | refine blk_drewN ?_ _ | refine blk_drew ?_ | refine blk_alloc ?_ _)); refine blk_far ?_ NB401_409.out _; (with_reducible repeat (first | refine blk_drewN ?_ _ | refine blk_drew ?_ | refine blk_alloc ?_ _)); exact BK401.out) hb); have n6_ := Aside0.mk (blk_below (g := gb409) (o := .cells #[.int .i64 t402, .int .i64 t403, .int .i64 t404, .slice Ao97 t405.length co97] 25 (0, 0)) (by (with_reducible repeat (first | refine blk_drewN ?_ _ | refine blk_drew ?_ | refine blk_alloc ?_ _)); refine blk_put (cs := #[.int .i64 t402, .int .i64 t403, .int .i64 t404, .slice none 0 0]) ?_ 3 _ rfl; (with_reducible repeat (first | refine blk_drewN ?_ _ | refine blk_drew ?_ | refine blk_alloc ?_ _)); refine blk_put (cs := #[.int .i64 t402, .int .i64 t403, .int .i64 0, .slice none 0 0]) ?_ 2 _ rfl; (with_reducible repeat (first | refine blk_drewN ?_ _ | refine blk_drew ?_ | refine blk_alloc ?_ _)); refine blk_put (cs := #[.int .i64 t402, .int .i64 0, .int .i64 0, .slice none 0 0]) ?_ 1 _ rfl; (with_reducible repeat (first | refine blk_drewN ?_ _ | refine blk_drew ?_ | refine blk_alloc ?_ _)); refine blk_put (cs := #[.int .i64 0, .int .i64 0, .int .i64 0, .slice none 0 0]) ?_ 0 _ rfl; (with_reducible repeat (first | refine blk_drewN ?_ _ | refine blk_drew ?_ | refine blk_alloc ?_ _)); exact BK409.out) hb); have n7_ := Aside0.mk (below_step bes hb); clear HO392; clear HO399; clear HO407; clear BK393; clear BK401; clear BK409; clear HB; have HO392 := n0_; have HO399 := n1_; have HO407 := n2_; have HO415 := n3_; have BK393 := n4_; have BK401 := n5_; have BK409 := n6_; have HB := n7_; clear n0_ n1_ n2_ n3_ n4_ n5_ n6_ n7_; (try clear hb); (try clear ho0)) | ((with_reducible refine gate_dst (N := 22) rfl ?_); refine box_event ?hg (N := 22) ?hd (cs := #[.int .i64 0, .int .i64 0, .int .i64 0, .slice none 0 0]) (t := 25) ?hr ?_; (case hd => rfl); (case hg => rfl); (case hr => first | (go_simp; done) | (go_simp; rfl)); intro gb417 hg w100 hbox hb; have n0_ := Aside0.mk (Kd.R_below (kr HO392) hb); have n1_ := Aside0.mk (Kd.R_below (kr HO399) hb); have n2_ := Aside0.mk (Kd.R_below (kr HO407) hb); have n3_ := Aside0.mk (Kd.R_below (kr HO415) hb); have n4_ := Aside0.mk (blk_below (g := gb393) (o := .cells #[.int .i64 t387, .int .i64 t388, .int .i64 t389, .slice Ao86 t390.length co86] 25 (0, 0)) (kb BK393) hb); have n5_ := Aside0.mk (blk_below (g := gb401) (o := .cells #[.int .i64 t394, .int .i64 t395, .int .i64 t396, .slice Ao91 t397.length co91] 25 (0, 0)) (kb BK401) hb); have n6_ := Aside0.mk (blk_below (g := gb409) (o := .cells #[.int .i64 t402, .int .i64 t403, .int .i64 t404, .slice Ao97 t405.length co97] 25 (0, 0)) (kb BK409) hb); have n7_ := Aside0.mk (below_step bes hb); have n8_ := Aside0.mk (hbox); have n9_ := Aside0.mk ((by rw [hg]; exact (below_size bes) : w.heap.size ≤ gb417)); have n10_ := Aside0.mk ((by rw [hg]; exact (below_size bes) : w.heap.size ≤ gb417)); have n11_ := Aside0.mk ((by rw [hg]; exact Nat.ne_of_lt (blk_lt (g := gb393) (o := .cells #[.int .i64 t387, .int .i64 t388, .int .i64 t389, .slice Ao86 t390.length co86] 25 (0, 0)) (kb BK393)) : gb393 ≠ gb417)); have n12_ := Aside0.mk ((by rw [hg]; exact Nat.ne_of_gt (blk_lt (g := gb393) (o := .cells #[.int .i64 t387, .int .i64 t388, .int .i64 t389, .slice Ao86 t390.length co86] 25 (0, 0)) (kb BK393)) : gb417 ≠ gb393)); have n13_ := Aside0.mk ((by rw [hg]; exact Nat.ne_of_lt (blk_lt (g := gb401) (o := .cells #[.int .i64 t394, .int .i64 t395, .int .i64 t396, .slice Ao91 t397.length co91] 25 (0, 0)) (kb BK401)) : gb401 ≠ gb417)); have n14_ := Aside0.mk ((by rw [hg]; exact Nat.ne_of_gt (blk_lt (g := gb401) (o := .cells #[.int .i64 t394, .int .i64 t395, .int .i64 t396, .slice Ao91 t397.length co91] 25 (0, 0)) (kb BK401)) : gb417 ≠ gb401)); have n15_ := Aside0.mk ((by rw [hg]; exact Nat.ne_of_lt (blk_lt (g := gb409) (o := .cells #[.int .i64 t402, .int .i64 t403, .int .i64 t404, .slice Ao97 t405.length co97] 25 (0, 0)) (kb BK409)) : gb409 ≠ gb417)); have n16_ := Aside0.mk ((by rw [hg]; exact Nat.ne_of_gt (blk_lt (g := gb409) (o := .cells #[.int .i64 t402, .int .i64 t403, .int .i64 t404, .slice Ao97 t405.length co97] 25 (0, 0)) (kb BK409)) : gb417 ≠ gb409)); clear HO392; clear HO399; clear HO407; clear HO415; clear BK393; clear BK401; clear BK409; clear HB; have HO392 := n0_; have HO399 := n1_; have HO407 := n2_; have HO415 := n3_; have BK393 := n4_; have BK401 := n5_; have BK409 := n6_; have HB := n7_; have BK417 := n8_; have GW417 := n9_; have GE417 := n10_; have NB393_417 := n11_; have NB417_393 := n12_; have NB401_417 := n13_; have NB417_401 := n14_; have NB409_417 := n15_; have NB417_409 := n16_; clear n0_ n1_ n2_ n3_ n4_ n5_ n6_ n7_ n8_ n9_ n10_ n11_ n12_ n13_ n14_ n15_ n16_; clear hb hbox hg; have hnb101 := NB417_393.out; have hnc101 := NB393_417.out; have hnb102 := NB417_401.out; have hnc102 := NB401_417.out; have hnb103 := NB417_409.out; have hnc103 := NB409_417.out; have hcz104_0 : w100.cell? ⟨gb417, 0, none⟩ = some (.int .i64 0) := (blk_cell BK417.out 0).trans rfl; have hcz104_1 : w100.cell? ⟨gb417, 1, none⟩ = some (.int .i64 0) := (blk_cell BK417.out 1).trans rfl; have hcz104_2 : w100.cell? ⟨gb417, 2, none⟩ = some (.int .i64 0) := (blk_cell BK417.out 2).trans rfl; have hcz104_3 : w100.cell? ⟨gb417, 3, none⟩ = some (.slice none 0 0) := (blk_cell BK417.out 3).trans rfl; have hfz104_0 := blk_frozen BK417.out 0; have hfz104_1 := blk_frozen BK417.out 1; have hfz104_2 := blk_frozen BK417.out 2; have hfz104_3 := blk_frozen BK417.out 3; obtain ⟨Ao105, co105, eo105⟩ := Kd.R_slice HO415.out; subst eo105; have hcz106_0 : w100.cell? ⟨gb393, 0, none⟩ = some (.int .i64 t387) := (blk_cell BK393.out 0).trans rfl; have hcz106_1 : w100.cell? ⟨gb393, 1, none⟩ = some (.int .i64 t388) := (blk_cell BK393.out 1).trans rfl; have hcz106_2 : w100.cell? ⟨gb393, 2, none⟩ = some (.int .i64 t389) := (blk_cell BK393.out 2).trans rfl; have hcz106_3 : w100.cell? ⟨gb393, 3, none⟩ = some (.slice Ao86 t390.length co86) := (blk_cell BK393.out 3).trans rfl; have hfz106_0 := blk_frozen BK393.out 0; have hfz106_1 := blk_frozen BK393.out 1; have hfz106_2 := blk_frozen BK393.out 2; have hfz106_3 := blk_frozen BK393.out 3))
     go_ret
     exact ⟨er, bes⟩
    ·
     rw [if_neg c81] at H
     have c81b0 : decide (t387 < (Go.bits .and .i64 a4 3)) = false := decide_eq_false c81
     clear c81
     obtain rfl := Option.some.inj H
     go_enter Try.func6, Try.ntmps6
     go_wp2_with (first | ((with_reducible refine gate_callee (f := 7) rfl ?_); refine goesL_ (some 26) rfl rfl Try.func7 (by kernel_rfl) rfl #[] rfl ga ?_; (with_reducible refine (gimballaw09_head.calls k  true _ A9.out).mono ?_); rintro e w107 ⟨rfl, hb⟩; refine ⟨_, rfl, ?_⟩; have n0_ := Aside0.mk (below_step bel hb); clear HB; have HB := n0_; clear n0_; (try clear hb)) | ((with_reducible refine gate_callee (f := 8) rfl ?_); refine goesL_ (some 35) rfl rfl Try.func8 (by kernel_rfl) rfl #[.int .i64 a0, .int .i64 a1, .int .i64 a2, .slice A3 l3.length c3] rfl ga ?_; (with_reducible refine (gimballaw09_Made.calls k a0 a1 a2 _ _ l3 t387 t388 t389 t390 _ ?side1 ?side2 A13.out).mono ?_); (case side1 => repeat (first | exact (Kd.C_below HR3.out HB.out) | (with_reducible refine Kd.C_alloc ?_ _) | (with_reducible refine Kd.C_drewN ?_ _) | (with_reducible refine Kd.C_drew ?_))); (case side2 => exact HC3.out); rintro e w108 ⟨v391, rfl, ho0, hb⟩; refine ⟨_, rfl, ?_⟩; have n0_ := Aside0.mk (Kd.R_lower ho0 (below_size bel)); have n1_ := Aside0.mk (below_step bel hb); clear HB; have HO392 := n0_; have HB := n1_; clear n0_ n1_; (try clear hb); (try clear ho0)) | ((with_reducible refine gate_dst (N := 17) rfl ?_); refine box_event ?hg (N := 17) ?hd (cs := #[.int .i64 0, .int .i64 0, .int .i64 0, .slice none 0 0]) (t := 25) ?hr ?_; (case hd => rfl); (case hg => rfl); (case hr => first | (go_simp; done) | (go_simp; rfl)); intro gb393 hg w109 hbox hb; have n0_ := Aside0.mk (Kd.R_below (kr HO392) hb); have n1_ := Aside0.mk (below_step bel hb); have n2_ := Aside0.mk (hbox); have n3_ := Aside0.mk ((by rw [hg]; exact (below_size bel) : w.heap.size ≤ gb393)); have n4_ := Aside0.mk ((by rw [hg]; exact (below_size bel) : w.heap.size ≤ gb393)); clear HO392; clear HB; have HO392 := n0_; have HB := n1_; have BK393 := n2_; have GW393 := n3_; have GE393 := n4_; clear n0_ n1_ n2_ n3_ n4_; clear hb hbox hg; have hcz110_0 : w109.cell? ⟨gb393, 0, none⟩ = some (.int .i64 0) := (blk_cell BK393.out 0).trans rfl; have hcz110_1 : w109.cell? ⟨gb393, 1, none⟩ = some (.int .i64 0) := (blk_cell BK393.out 1).trans rfl; have hcz110_2 : w109.cell? ⟨gb393, 2, none⟩ = some (.int .i64 0) := (blk_cell BK393.out 2).trans rfl; have hcz110_3 : w109.cell? ⟨gb393, 3, none⟩ = some (.slice none 0 0) := (blk_cell BK393.out 3).trans rfl; have hfz110_0 := blk_frozen BK393.out 0; have hfz110_1 := blk_frozen BK393.out 1; have hfz110_2 := blk_frozen BK393.out 2; have hfz110_3 := blk_frozen BK393.out 3; obtain ⟨Ao111, co111, eo111⟩ := Kd.R_slice HO392.out; subst eo111) | ((with_reducible refine gate_callee (f := 13) rfl ?_); refine goesL_ (some 56) rfl rfl Try.func13 (by kernel_rfl) rfl #[.agg #[.int .i64 t387, .int .i64 t388, .int .i64 t389, .slice Ao111 t390.length co111], .int .i64 (Go.bits .and .i64 a4 3), .int .i64 (Go.bits .and .i64 a5 3), .int .i64 (wrap64 (t387 - (Go.bits .and .i64 a4 3))), .int .i64 (wrap64 (t388 - (Go.bits .and .i64 a5 3)))] rfl ga ?_; (with_reducible refine (mat_Matrix_Cut.calls k t387 t388 t389 _ _ t390 (Go.bits .and .i64 a4 3) (Go.bits .and .i64 a5 3) (wrap64 (t387 - (Go.bits .and .i64 a4 3))) (wrap64 (t388 - (Go.bits .and .i64 a5 3))) t394 t395 t396 t397 t400 _ ?side1 ?side2 A14.out).mono ?_); (case side1 => refine (Kd.R_reads' (e := 30) (base := w.heap.size) (ok := fun k_ => True) (n := t390.length) (c := co111) ?_).2.2; exact (by (with_reducible repeat (first | apply Kd.R_alloc | apply Kd.R_drewN | apply Kd.R_drew)); exact (Kd.R_mono (Kd.R_far (p := ⟨gb393, 3, none⟩) (Kd.R_far (p := ⟨gb393, 2, none⟩) (Kd.R_far (p := ⟨gb393, 1, none⟩) (Kd.R_far (p := ⟨gb393, 0, none⟩) (Kd.R_types HO392.out BK393.out (by decide)) (fun _ hk => hk.2) (.int .i64 t387)) (fun _ hk => hk.2) (.int .i64 t388)) (fun _ hk => hk.2) (.int .i64 t389)) (fun _ hk => hk.2) (.slice Ao111 t390.length co111)) (fun _ h_ => h_.1)))); (case side2 => exact (Kd.R_reads' HO392.out).2.1); rintro e w112 ⟨v398, rfl, ho0, hb⟩; refine ⟨_, rfl, ?_⟩; have n0_ := Aside0.mk (Kd.R_elder' (by (with_reducible repeat (first | apply Kd.R_alloc | apply Kd.R_drewN | apply Kd.R_drew)); exact (Kd.R_mono (Kd.R_far (p := ⟨gb393, 3, none⟩) (Kd.R_far (p := ⟨gb393, 2, none⟩) (Kd.R_far (p := ⟨gb393, 1, none⟩) (Kd.R_far (p := ⟨gb393, 0, none⟩) (Kd.R_types HO392.out BK393.out (by decide)) (fun _ hk => hk.2) (.int .i64 t387)) (fun _ hk => hk.2) (.int .i64 t388)) (fun _ hk => hk.2) (.int .i64 t389)) (fun _ hk => hk.2) (.slice Ao111 t390.length co111)) (fun _ h_ => h_.1))) (Kd.R_base ho0) hb); have n1_ := Aside0.mk (Kd.R_lower (Kd.R_new' ho0 (Kd.R_lt (by (with_reducible repeat (first | apply Kd.R_alloc | apply Kd.R_drewN | apply Kd.R_drew)); exact (Kd.R_mono (Kd.R_far (p := ⟨gb393, 3, none⟩) (Kd.R_far (p := ⟨gb393, 2, none⟩) (Kd.R_far (p := ⟨gb393, 1, none⟩) (Kd.R_far (p := ⟨gb393, 0, none⟩) (Kd.R_types HO392.out BK393.out (by decide)) (fun _ hk => hk.2) (.int .i64 t387)) (fun _ hk => hk.2) (.int .i64 t388)) (fun _ hk => hk.2) (.int .i64 t389)) (fun _ hk => hk.2) (.slice Ao111 t390.length co111)) (fun _ h_ => h_.1))))) (below_size bes)); have n2_ := Aside0.mk (blk_below (g := gb393) (o := .cells #[.int .i64 t387, .int .i64 t388, .int .i64 t389, .slice Ao111 t390.length co111] 25 (0, 0)) (by (with_reducible repeat (first | refine blk_drewN ?_ _ | refine blk_drew ?_ | refine blk_alloc ?_ _)); refine blk_put (cs := #[.int .i64 t387, .int .i64 t388, .int .i64 t389, .slice none 0 0]) ?_ 3 _ rfl; (with_reducible repeat (first | refine blk_drewN ?_ _ | refine blk_drew ?_ | refine blk_alloc ?_ _)); refine blk_put (cs := #[.int .i64 t387, .int .i64 t388, .int .i64 0, .slice none 0 0]) ?_ 2 _ rfl; (with_reducible repeat (first | refine blk_drewN ?_ _ | refine blk_drew ?_ | refine blk_alloc ?_ _)); refine blk_put (cs := #[.int .i64 t387, .int .i64 0, .int .i64 0, .slice none 0 0]) ?_ 1 _ rfl; (with_reducible repeat (first | refine blk_drewN ?_ _ | refine blk_drew ?_ | refine blk_alloc ?_ _)); refine blk_put (cs := #[.int .i64 0, .int .i64 0, .int .i64 0, .slice none 0 0]) ?_ 0 _ rfl; (with_reducible repeat (first | refine blk_drewN ?_ _ | refine blk_drew ?_ | refine blk_alloc ?_ _)); exact BK393.out) hb); have n3_ := Aside0.mk (below_step bes hb); clear HO392; clear BK393; clear HB; have HO392 := n0_; have HO399 := n1_; have BK393 := n2_; have HB := n3_; clear n0_ n1_ n2_ n3_; (try clear hb); (try clear ho0)) | ((with_reducible refine gate_dst (N := 18) rfl ?_); refine box_event ?hg (N := 18) ?hd (cs := #[.int .i64 0, .int .i64 0, .int .i64 0, .slice none 0 0]) (t := 25) ?hr ?_; (case hd => rfl); (case hg => rfl); (case hr => first | (go_simp; done) | (go_simp; rfl)); intro gb401 hg w113 hbox hb; have n0_ := Aside0.mk (Kd.R_below (kr HO392) hb); have n1_ := Aside0.mk (Kd.R_below (kr HO399) hb); have n2_ := Aside0.mk (blk_below (g := gb393) (o := .cells #[.int .i64 t387, .int .i64 t388, .int .i64 t389, .slice Ao111 t390.length co111] 25 (0, 0)) (kb BK393) hb); have n3_ := Aside0.mk (below_step bes hb); have n4_ := Aside0.mk (hbox); have n5_ := Aside0.mk ((by rw [hg]; exact (below_size bes) : w.heap.size ≤ gb401)); have n6_ := Aside0.mk ((by rw [hg]; exact (below_size bes) : w.heap.size ≤ gb401)); have n7_ := Aside0.mk ((by rw [hg]; exact Nat.ne_of_lt (blk_lt (g := gb393) (o := .cells #[.int .i64 t387, .int .i64 t388, .int .i64 t389, .slice Ao111 t390.length co111] 25 (0, 0)) (kb BK393)) : gb393 ≠ gb401)); have n8_ := Aside0.mk ((by rw [hg]; exact Nat.ne_of_gt (blk_lt (g := gb393) (o := .cells #[.int .i64 t387, .int .i64 t388, .int .i64 t389, .slice Ao111 t390.length co111] 25 (0, 0)) (kb BK393)) : gb401 ≠ gb393)); clear HO392; clear HO399; clear BK393; clear HB; have HO392 := n0_; have HO399 := n1_; have BK393 := n2_; have HB := n3_; have BK401 := n4_; have GW401 := n5_; have GE401 := n6_; have NB393_401 := n7_; have NB401_393 := n8_; clear n0_ n1_ n2_ n3_ n4_ n5_ n6_ n7_ n8_; clear hb hbox hg; have hnb114 := NB401_393.out; have hnc114 := NB393_401.out; have hcz115_0 : w113.cell? ⟨gb401, 0, none⟩ = some (.int .i64 0) := (blk_cell BK401.out 0).trans rfl; have hcz115_1 : w113.cell? ⟨gb401, 1, none⟩ = some (.int .i64 0) := (blk_cell BK401.out 1).trans rfl; have hcz115_2 : w113.cell? ⟨gb401, 2, none⟩ = some (.int .i64 0) := (blk_cell BK401.out 2).trans rfl; have hcz115_3 : w113.cell? ⟨gb401, 3, none⟩ = some (.slice none 0 0) := (blk_cell BK401.out 3).trans rfl; have hfz115_0 := blk_frozen BK401.out 0; have hfz115_1 := blk_frozen BK401.out 1; have hfz115_2 := blk_frozen BK401.out 2; have hfz115_3 := blk_frozen BK401.out 3; obtain ⟨Ao116, co116, eo116⟩ := Kd.R_slice HO399.out; subst eo116) | ((with_reducible refine gate_callee (f := 13) rfl ?_); refine goesL_ (some 63) rfl rfl Try.func13 (by kernel_rfl) rfl #[.agg #[.int .i64 t394, .int .i64 t395, .int .i64 t396, .slice Ao116 t397.length co116], .int .i64 (Go.bits .and .i64 a6 3), .int .i64 (Go.bits .and .i64 a7 3), .int .i64 1, .int .i64 1] rfl ga ?_; (with_reducible refine (mat_Matrix_Cut.calls k t394 t395 t396 _ _ t397 (Go.bits .and .i64 a6 3) (Go.bits .and .i64 a7 3) 1 1 t402 t403 t404 t405 t408 _ ?side1 ?side2 A15.out).mono ?_); (case side1 => refine (Kd.R_reads' (e := 30) (base := w.heap.size) (ok := fun k_ => (True ∧ some k_ ≠ (.slice Ao111 t390.length co111 : Value).ownBlock)) (n := t397.length) (c := co116) ?_).2.2; exact (by (with_reducible repeat (first | apply Kd.R_alloc | apply Kd.R_drewN | apply Kd.R_drew)); exact (Kd.R_mono (Kd.R_far (p := ⟨gb401, 3, none⟩) (Kd.R_far (p := ⟨gb401, 2, none⟩) (Kd.R_far (p := ⟨gb401, 1, none⟩) (Kd.R_far (p := ⟨gb401, 0, none⟩) (Kd.R_types HO399.out BK401.out (by decide)) (fun _ hk => hk.2) (.int .i64 t394)) (fun _ hk => hk.2) (.int .i64 t395)) (fun _ hk => hk.2) (.int .i64 t396)) (fun _ hk => hk.2) (.slice Ao116 t397.length co116)) (fun _ h_ => h_.1)))); (case side2 => exact (Kd.R_reads' HO399.out).2.1); rintro e w117 ⟨v406, rfl, ho0, hb⟩; refine ⟨_, rfl, ?_⟩; have n0_ := Aside0.mk (Kd.R_elder' (by (with_reducible repeat (first | apply Kd.R_alloc | apply Kd.R_drewN | apply Kd.R_drew)); exact (Kd.R_mono (Kd.R_far (p := ⟨gb401, 3, none⟩) (Kd.R_far (p := ⟨gb401, 2, none⟩) (Kd.R_far (p := ⟨gb401, 1, none⟩) (Kd.R_far (p := ⟨gb401, 0, none⟩) (Kd.R_types HO392.out BK401.out (by decide)) (fun _ hk => hk.2) (.int .i64 t394)) (fun _ hk => hk.2) (.int .i64 t395)) (fun _ hk => hk.2) (.int .i64 t396)) (fun _ hk => hk.2) (.slice Ao116 t397.length co116)) (fun _ h_ => h_.1))) (Kd.R_base ho0) hb); have n1_ := Aside0.mk (Kd.R_elder' (by (with_reducible repeat (first | apply Kd.R_alloc | apply Kd.R_drewN | apply Kd.R_drew)); exact (Kd.R_mono (Kd.R_far (p := ⟨gb401, 3, none⟩) (Kd.R_far (p := ⟨gb401, 2, none⟩) (Kd.R_far (p := ⟨gb401, 1, none⟩) (Kd.R_far (p := ⟨gb401, 0, none⟩) (Kd.R_types HO399.out BK401.out (by decide)) (fun _ hk => hk.2) (.int .i64 t394)) (fun _ hk => hk.2) (.int .i64 t395)) (fun _ hk => hk.2) (.int .i64 t396)) (fun _ hk => hk.2) (.slice Ao116 t397.length co116)) (fun _ h_ => h_.1))) (Kd.R_base ho0) hb); have n2_ := Aside0.mk (Kd.R_lower (Kd.R_new' (Kd.R_new' ho0 (Kd.R_lt (by (with_reducible repeat (first | apply Kd.R_alloc | apply Kd.R_drewN | apply Kd.R_drew)); exact (Kd.R_mono (Kd.R_far (p := ⟨gb401, 3, none⟩) (Kd.R_far (p := ⟨gb401, 2, none⟩) (Kd.R_far (p := ⟨gb401, 1, none⟩) (Kd.R_far (p := ⟨gb401, 0, none⟩) (Kd.R_types HO392.out BK401.out (by decide)) (fun _ hk => hk.2) (.int .i64 t394)) (fun _ hk => hk.2) (.int .i64 t395)) (fun _ hk => hk.2) (.int .i64 t396)) (fun _ hk => hk.2) (.slice Ao116 t397.length co116)) (fun _ h_ => h_.1))))) (Kd.R_lt (by (with_reducible repeat (first | apply Kd.R_alloc | apply Kd.R_drewN | apply Kd.R_drew)); exact (Kd.R_mono (Kd.R_far (p := ⟨gb401, 3, none⟩) (Kd.R_far (p := ⟨gb401, 2, none⟩) (Kd.R_far (p := ⟨gb401, 1, none⟩) (Kd.R_far (p := ⟨gb401, 0, none⟩) (Kd.R_types HO399.out BK401.out (by decide)) (fun _ hk => hk.2) (.int .i64 t394)) (fun _ hk => hk.2) (.int .i64 t395)) (fun _ hk => hk.2) (.int .i64 t396)) (fun _ hk => hk.2) (.slice Ao116 t397.length co116)) (fun _ h_ => h_.1))))) (below_size bes)); have n3_ := Aside0.mk (blk_below (g := gb393) (o := .cells #[.int .i64 t387, .int .i64 t388, .int .i64 t389, .slice Ao111 t390.length co111] 25 (0, 0)) (by (with_reducible repeat (first | refine blk_drewN ?_ _ | refine blk_drew ?_ | refine blk_alloc ?_ _)); refine blk_far ?_ NB393_401.out _; (with_reducible repeat (first | refine blk_drewN ?_ _ | refine blk_drew ?_ | refine blk_alloc ?_ _)); refine blk_far ?_ NB393_401.out _; (with_reducible repeat (first | refine blk_drewN ?_ _ | refine blk_drew ?_ | refine blk_alloc ?_ _)); refine blk_far ?_ NB393_401.out _; (with_reducible repeat (first | refine blk_drewN ?_ _ | refine blk_drew ?_ | refine blk_alloc ?_ _)); refine blk_far ?_ NB393_401.out _; (with_reducible repeat (first | refine blk_drewN ?_ _ | refine blk_drew ?_ | refine blk_alloc ?_ _)); exact BK393.out) hb); have n4_ := Aside0.mk (blk_below (g := gb401) (o := .cells #[.int .i64 t394, .int .i64 t395, .int .i64 t396, .slice Ao116 t397.length co116] 25 (0, 0)) (by (with_reducible repeat (first | refine blk_drewN ?_ _ | refine blk_drew ?_ | refine blk_alloc ?_ _)); refine blk_put (cs := #[.int .i64 t394, .int .i64 t395, .int .i64 t396, .slice none 0 0]) ?_ 3 _ rfl; (with_reducible repeat (first | refine blk_drewN ?_ _ | refine blk_drew ?_ | refine blk_alloc ?_ _)); refine blk_put (cs := #[.int .i64 t394, .int .i64 t395, .int .i64 0, .slice none 0 0]) ?_ 2 _ rfl; (with_reducible repeat (first | refine blk_drewN ?_ _ | refine blk_drew ?_ | refine blk_alloc ?_ _)); refine blk_put (cs := #[.int .i64 t394, .int .i64 0, .int .i64 0, .slice none 0 0]) ?_ 1 _ rfl; (with_reducible repeat (first | refine blk_drewN ?_ _ | refine blk_drew ?_ | refine blk_alloc ?_ _)); refine blk_put (cs := #[.int .i64 0, .int .i64 0, .int .i64 0, .slice none 0 0]) ?_ 0 _ rfl; (with_reducible repeat (first | refine blk_drewN ?_ _ | refine blk_drew ?_ | refine blk_alloc ?_ _)); exact BK401.out) hb); have n5_ := Aside0.mk (below_step bes hb); clear HO392; clear HO399; clear BK393; clear BK401; clear HB; have HO392 := n0_; have HO399 := n1_; have HO407 := n2_; have BK393 := n3_; have BK401 := n4_; have HB := n5_; clear n0_ n1_ n2_ n3_ n4_ n5_; (try clear hb); (try clear ho0)) | ((with_reducible refine gate_dst (N := 20) rfl ?_); refine box_event ?hg (N := 20) ?hd (cs := #[.int .i64 0, .int .i64 0, .int .i64 0, .slice none 0 0]) (t := 25) ?hr ?_; (case hd => rfl); (case hg => rfl); (case hr => first | (go_simp; done) | (go_simp; rfl)); intro gb409 hg w118 hbox hb; have n0_ := Aside0.mk (Kd.R_below (kr HO392) hb); have n1_ := Aside0.mk (Kd.R_below (kr HO399) hb); have n2_ := Aside0.mk (Kd.R_below (kr HO407) hb); have n3_ := Aside0.mk (blk_below (g := gb393) (o := .cells #[.int .i64 t387, .int .i64 t388, .int .i64 t389, .slice Ao111 t390.length co111] 25 (0, 0)) (kb BK393) hb); have n4_ := Aside0.mk (blk_below (g := gb401) (o := .cells #[.int .i64 t394, .int .i64 t395, .int .i64 t396, .slice Ao116 t397.length co116] 25 (0, 0)) (kb BK401) hb); have n5_ := Aside0.mk (below_step bes hb); have n6_ := Aside0.mk (hbox); have n7_ := Aside0.mk ((by rw [hg]; exact (below_size bes) : w.heap.size ≤ gb409)); have n8_ := Aside0.mk ((by rw [hg]; exact (below_size bes) : w.heap.size ≤ gb409)); have n9_ := Aside0.mk ((by rw [hg]; exact Nat.ne_of_lt (blk_lt (g := gb393) (o := .cells #[.int .i64 t387, .int .i64 t388, .int .i64 t389, .slice Ao111 t390.length co111] 25 (0, 0)) (kb BK393)) : gb393 ≠ gb409)); have n10_ := Aside0.mk ((by rw [hg]; exact Nat.ne_of_gt (blk_lt (g := gb393) (o := .cells #[.int .i64 t387, .int .i64 t388, .int .i64 t389, .slice Ao111 t390.length co111] 25 (0, 0)) (kb BK393)) : gb409 ≠ gb393)); have n11_ := Aside0.mk ((by rw [hg]; exact Nat.ne_of_lt (blk_lt (g := gb401) (o := .cells #[.int .i64 t394, .int .i64 t395, .int .i64 t396, .slice Ao116 t397.length co116] 25 (0, 0)) (kb BK401)) : gb401 ≠ gb409)); have n12_ := Aside0.mk ((by rw [hg]; exact Nat.ne_of_gt (blk_lt (g := gb401) (o := .cells #[.int .i64 t394, .int .i64 t395, .int .i64 t396, .slice Ao116 t397.length co116] 25 (0, 0)) (kb BK401)) : gb409 ≠ gb401)); clear HO392; clear HO399; clear HO407; clear BK393; clear BK401; clear HB; have HO392 := n0_; have HO399 := n1_; have HO407 := n2_; have BK393 := n3_; have BK401 := n4_; have HB := n5_; have BK409 := n6_; have GW409 := n7_; have GE409 := n8_; have NB393_409 := n9_; have NB409_393 := n10_; have NB401_409 := n11_; have NB409_401 := n12_; clear n0_ n1_ n2_ n3_ n4_ n5_ n6_ n7_ n8_ n9_ n10_ n11_ n12_; clear hb hbox hg; have hnb119 := NB409_393.out; have hnc119 := NB393_409.out; have hnb120 := NB409_401.out; have hnc120 := NB401_409.out; have hcz121_0 : w118.cell? ⟨gb409, 0, none⟩ = some (.int .i64 0) := (blk_cell BK409.out 0).trans rfl; have hcz121_1 : w118.cell? ⟨gb409, 1, none⟩ = some (.int .i64 0) := (blk_cell BK409.out 1).trans rfl; have hcz121_2 : w118.cell? ⟨gb409, 2, none⟩ = some (.int .i64 0) := (blk_cell BK409.out 2).trans rfl; have hcz121_3 : w118.cell? ⟨gb409, 3, none⟩ = some (.slice none 0 0) := (blk_cell BK409.out 3).trans rfl; have hfz121_0 := blk_frozen BK409.out 0; have hfz121_1 := blk_frozen BK409.out 1; have hfz121_2 := blk_frozen BK409.out 2; have hfz121_3 := blk_frozen BK409.out 3; obtain ⟨Ao122, co122, eo122⟩ := Kd.R_slice HO407.out; subst eo122; have hcz123_0 : w118.cell? ⟨gb393, 0, none⟩ = some (.int .i64 t387) := (blk_cell BK393.out 0).trans rfl; have hcz123_1 : w118.cell? ⟨gb393, 1, none⟩ = some (.int .i64 t388) := (blk_cell BK393.out 1).trans rfl; have hcz123_2 : w118.cell? ⟨gb393, 2, none⟩ = some (.int .i64 t389) := (blk_cell BK393.out 2).trans rfl; have hcz123_3 : w118.cell? ⟨gb393, 3, none⟩ = some (.slice Ao111 t390.length co111) := (blk_cell BK393.out 3).trans rfl; have hfz123_0 := blk_frozen BK393.out 0; have hfz123_1 := blk_frozen BK393.out 1; have hfz123_2 := blk_frozen BK393.out 2; have hfz123_3 := blk_frozen BK393.out 3) | ((with_reducible refine gate_callee (f := 13) rfl ?_); refine goesL_ (some 74) rfl rfl Try.func13 (by kernel_rfl) rfl #[.agg #[.int .i64 t387, .int .i64 t388, .int .i64 t389, .slice Ao111 t390.length co111], .int .i64 (wrap64 ((Go.bits .and .i64 a4 3) + (Go.bits .and .i64 a6 3))), .int .i64 (wrap64 ((Go.bits .and .i64 a5 3) + (Go.bits .and .i64 a7 3))), .int .i64 1, .int .i64 1] rfl ga ?_; (with_reducible refine (mat_Matrix_Cut.calls k t387 t388 t389 _ _ t390 (wrap64 ((Go.bits .and .i64 a4 3) + (Go.bits .and .i64 a6 3))) (wrap64 ((Go.bits .and .i64 a5 3) + (Go.bits .and .i64 a7 3))) 1 1 t410 t411 t412 t413 t416 _ ?side1 ?side2 A16.out).mono ?_); (case side1 => refine (Kd.R_reads' (e := 30) (base := w.heap.size) (ok := fun k_ => ((True ∧ some k_ ≠ (.slice Ao116 t397.length co116 : Value).ownBlock) ∧ some k_ ≠ (.slice Ao122 t405.length co122 : Value).ownBlock)) (n := t390.length) (c := co111) ?_).2.2; exact (by (with_reducible repeat (first | apply Kd.R_alloc | apply Kd.R_drewN | apply Kd.R_drew)); exact (Kd.R_mono (Kd.R_far (p := ⟨gb409, 3, none⟩) (Kd.R_far (p := ⟨gb409, 2, none⟩) (Kd.R_far (p := ⟨gb409, 1, none⟩) (Kd.R_far (p := ⟨gb409, 0, none⟩) (Kd.R_types HO392.out BK409.out (by decide)) (fun _ hk => hk.2) (.int .i64 t402)) (fun _ hk => hk.2) (.int .i64 t403)) (fun _ hk => hk.2) (.int .i64 t404)) (fun _ hk => hk.2) (.slice Ao122 t405.length co122)) (fun _ h_ => h_.1)))); (case side2 => exact (Kd.R_reads' HO392.out).2.1); rintro e w124 ⟨v414, rfl, ho0, hb⟩; refine ⟨_, rfl, ?_⟩; have n0_ := Aside0.mk (Kd.R_elder' (by (with_reducible repeat (first | apply Kd.R_alloc | apply Kd.R_drewN | apply Kd.R_drew)); exact (Kd.R_mono (Kd.R_far (p := ⟨gb409, 3, none⟩) (Kd.R_far (p := ⟨gb409, 2, none⟩) (Kd.R_far (p := ⟨gb409, 1, none⟩) (Kd.R_far (p := ⟨gb409, 0, none⟩) (Kd.R_types HO392.out BK409.out (by decide)) (fun _ hk => hk.2) (.int .i64 t402)) (fun _ hk => hk.2) (.int .i64 t403)) (fun _ hk => hk.2) (.int .i64 t404)) (fun _ hk => hk.2) (.slice Ao122 t405.length co122)) (fun _ h_ => h_.1))) (Kd.R_base ho0) hb); have n1_ := Aside0.mk (Kd.R_elder' (by (with_reducible repeat (first | apply Kd.R_alloc | apply Kd.R_drewN | apply Kd.R_drew)); exact (Kd.R_mono (Kd.R_far (p := ⟨gb409, 3, none⟩) (Kd.R_far (p := ⟨gb409, 2, none⟩) (Kd.R_far (p := ⟨gb409, 1, none⟩) (Kd.R_far (p := ⟨gb409, 0, none⟩) (Kd.R_types HO399.out BK409.out (by decide)) (fun _ hk => hk.2) (.int .i64 t402)) (fun _ hk => hk.2) (.int .i64 t403)) (fun _ hk => hk.2) (.int .i64 t404)) (fun _ hk => hk.2) (.slice Ao122 t405.length co122)) (fun _ h_ => h_.1))) (Kd.R_base ho0) hb); have n2_ := Aside0.mk (Kd.R_elder' (by (with_reducible repeat (first | apply Kd.R_alloc | apply Kd.R_drewN | apply Kd.R_drew)); exact (Kd.R_mono (Kd.R_far (p := ⟨gb409, 3, none⟩) (Kd.R_far (p := ⟨gb409, 2, none⟩) (Kd.R_far (p := ⟨gb409, 1, none⟩) (Kd.R_far (p := ⟨gb409, 0, none⟩) (Kd.R_types HO407.out BK409.out (by decide)) (fun _ hk => hk.2) (.int .i64 t402)) (fun _ hk => hk.2) (.int .i64 t403)) (fun _ hk => hk.2) (.int .i64 t404)) (fun _ hk => hk.2) (.slice Ao122 t405.length co122)) (fun _ h_ => h_.1))) (Kd.R_base ho0) hb); have n3_ := Aside0.mk (Kd.R_lower (Kd.R_new' (Kd.R_new' (Kd.R_new' ho0 (Kd.R_lt (by (with_reducible repeat (first | apply Kd.R_alloc | apply Kd.R_drewN | apply Kd.R_drew)); exact (Kd.R_mono (Kd.R_far (p := ⟨gb409, 3, none⟩) (Kd.R_far (p := ⟨gb409, 2, none⟩) (Kd.R_far (p := ⟨gb409, 1, none⟩) (Kd.R_far (p := ⟨gb409, 0, none⟩) (Kd.R_types HO392.out BK409.out (by decide)) (fun _ hk => hk.2) (.int .i64 t402)) (fun _ hk => hk.2) (.int .i64 t403)) (fun _ hk => hk.2) (.int .i64 t404)) (fun _ hk => hk.2) (.slice Ao122 t405.length co122)) (fun _ h_ => h_.1))))) (Kd.R_lt (by (with_reducible repeat (first | apply Kd.R_alloc | apply Kd.R_drewN | apply Kd.R_drew)); exact (Kd.R_mono (Kd.R_far (p := ⟨gb409, 3, none⟩) (Kd.R_far (p := ⟨gb409, 2, none⟩) (Kd.R_far (p := ⟨gb409, 1, none⟩) (Kd.R_far (p := ⟨gb409, 0, none⟩) (Kd.R_types HO399.out BK409.out (by decide)) (fun _ hk => hk.2) (.int .i64 t402)) (fun _ hk => hk.2) (.int .i64 t403)) (fun _ hk => hk.2) (.int .i64 t404)) (fun _ hk => hk.2) (.slice Ao122 t405.length co122)) (fun _ h_ => h_.1))))) (Kd.R_lt (by (with_reducible repeat (first | apply Kd.R_alloc | apply Kd.R_drewN | apply Kd.R_drew)); exact (Kd.R_mono (Kd.R_far (p := ⟨gb409, 3, none⟩) (Kd.R_far (p := ⟨gb409, 2, none⟩) (Kd.R_far (p := ⟨gb409, 1, none⟩) (Kd.R_far (p := ⟨gb409, 0, none⟩) (Kd.R_types HO407.out BK409.out (by decide)) (fun _ hk => hk.2) (.int .i64 t402)) (fun _ hk => hk.2) (.int .i64 t403)) (fun _ hk => hk.2) (.int .i64 t404)) (fun _ hk => hk.2) (.slice Ao122 t405.length co122)) (fun _ h_ => h_.1))))) (below_size bes)); have n4_ := Aside0.mk (blk_below (g := gb393) (o := .cells #[.int .i64 t387, .int .i64 t388, .int .i64 t389, .slice Ao111 t390.length co111] 25 (0, 0)) (by (with_reducible repeat (first | refine blk_drewN ?_ _ | refine blk_drew ?_ | refine blk_alloc ?_ _)); refine blk_far ?_ NB393_409.out _; (with_reducible repeat (first | refine blk_drewN ?_ _ | refine blk_drew ?_ | refine blk_alloc ?_ _)); refine blk_far ?_ NB393_409.out _; (with_reducible repeat (first | refine blk_drewN ?_ _ | refine blk_drew ?_ | refine blk_alloc ?_ _)); refine blk_far ?_ NB393_409.out _; (with_reducible repeat (first | refine blk_drewN ?_ _ | refine blk_drew ?_ | refine blk_alloc ?_ _)); refine blk_far ?_ NB393_409.out _; (with_reducible repeat (first | refine blk_drewN ?_ _ | refine blk_drew ?_ | refine blk_alloc ?_ _)); exact BK393.out) hb); have n5_ := Aside0.mk (blk_below (g := gb401) (o := .cells #[.int .i64 t394, .int .i64 t395, .int .i64 t396, .slice Ao116 t397.length co116] 25 (0, 0)) (by (with_reducible repeat (first | refine blk_drewN ?_ _ | refine blk_drew ?_ | refine blk_alloc ?_ _)); refine blk_far ?_ NB401_409.out _; (with_reducible repeat (first | refine blk_drewN ?_ _ | refine blk_drew ?_ | refine blk_alloc ?_ _)); refine blk_far ?_ NB401_409.out _; (with_reducible repeat (first | refine blk_drewN ?_ _ | refine blk_drew ?_ | refine blk_alloc ?_ _)); refine blk_far ?_ NB401_409.out _; (with_reducible repeat (first | refine blk_drewN ?_ _ | refine blk_drew ?_ | refine blk_alloc ?_ _)); refine blk_far ?_ NB401_409.out _; (with_reducible repeat (first | refine blk_drewN ?_ _ | refine blk_drew ?_ | refine blk_alloc ?_ _)); exact BK401.out) hb); have n6_ := Aside0.mk (blk_below (g := gb409) (o := .cells #[.int .i64 t402, .int .i64 t403, .int .i64 t404, .slice Ao122 t405.length co122] 25 (0, 0)) (by (with_reducible repeat (first | refine blk_drewN ?_ _ | refine blk_drew ?_ | refine blk_alloc ?_ _)); refine blk_put (cs := #[.int .i64 t402, .int .i64 t403, .int .i64 t404, .slice none 0 0]) ?_ 3 _ rfl; (with_reducible repeat (first | refine blk_drewN ?_ _ | refine blk_drew ?_ | refine blk_alloc ?_ _)); refine blk_put (cs := #[.int .i64 t402, .int .i64 t403, .int .i64 0, .slice none 0 0]) ?_ 2 _ rfl; (with_reducible repeat (first | refine blk_drewN ?_ _ | refine blk_drew ?_ | refine blk_alloc ?_ _)); refine blk_put (cs := #[.int .i64 t402, .int .i64 0, .int .i64 0, .slice none 0 0]) ?_ 1 _ rfl; (with_reducible repeat (first | refine blk_drewN ?_ _ | refine blk_drew ?_ | refine blk_alloc ?_ _)); refine blk_put (cs := #[.int .i64 0, .int .i64 0, .int .i64 0, .slice none 0 0]) ?_ 0 _ rfl; (with_reducible repeat (first | refine blk_drewN ?_ _ | refine blk_drew ?_ | refine blk_alloc ?_ _)); exact BK409.out) hb); have n7_ := Aside0.mk (below_step bes hb); clear HO392; clear HO399; clear HO407; clear BK393; clear BK401; clear BK409; clear HB; have HO392 := n0_; have HO399 := n1_; have HO407 := n2_; have HO415 := n3_; have BK393 := n4_; have BK401 := n5_; have BK409 := n6_; have HB := n7_; clear n0_ n1_ n2_ n3_ n4_ n5_ n6_ n7_; (try clear hb); (try clear ho0)) | ((with_reducible refine gate_dst (N := 22) rfl ?_); refine box_event ?hg (N := 22) ?hd (cs := #[.int .i64 0, .int .i64 0, .int .i64 0, .slice none 0 0]) (t := 25) ?hr ?_; (case hd => rfl); (case hg => rfl); (case hr => first | (go_simp; done) | (go_simp; rfl)); intro gb417 hg w125 hbox hb; have n0_ := Aside0.mk (Kd.R_below (kr HO392) hb); have n1_ := Aside0.mk (Kd.R_below (kr HO399) hb); have n2_ := Aside0.mk (Kd.R_below (kr HO407) hb); have n3_ := Aside0.mk (Kd.R_below (kr HO415) hb); have n4_ := Aside0.mk (blk_below (g := gb393) (o := .cells #[.int .i64 t387, .int .i64 t388, .int .i64 t389, .slice Ao111 t390.length co111] 25 (0, 0)) (kb BK393) hb); have n5_ := Aside0.mk (blk_below (g := gb401) (o := .cells #[.int .i64 t394, .int .i64 t395, .int .i64 t396, .slice Ao116 t397.length co116] 25 (0, 0)) (kb BK401) hb); have n6_ := Aside0.mk (blk_below (g := gb409) (o := .cells #[.int .i64 t402, .int .i64 t403, .int .i64 t404, .slice Ao122 t405.length co122] 25 (0, 0)) (kb BK409) hb); have n7_ := Aside0.mk (below_step bes hb); have n8_ := Aside0.mk (hbox); have n9_ := Aside0.mk ((by rw [hg]; exact (below_size bes) : w.heap.size ≤ gb417)); have n10_ := Aside0.mk ((by rw [hg]; exact (below_size bes) : w.heap.size ≤ gb417)); have n11_ := Aside0.mk ((by rw [hg]; exact Nat.ne_of_lt (blk_lt (g := gb393) (o := .cells #[.int .i64 t387, .int .i64 t388, .int .i64 t389, .slice Ao111 t390.length co111] 25 (0, 0)) (kb BK393)) : gb393 ≠ gb417)); have n12_ := Aside0.mk ((by rw [hg]; exact Nat.ne_of_gt (blk_lt (g := gb393) (o := .cells #[.int .i64 t387, .int .i64 t388, .int .i64 t389, .slice Ao111 t390.length co111] 25 (0, 0)) (kb BK393)) : gb417 ≠ gb393)); have n13_ := Aside0.mk ((by rw [hg]; exact Nat.ne_of_lt (blk_lt (g := gb401) (o := .cells #[.int .i64 t394, .int .i64 t395, .int .i64 t396, .slice Ao116 t397.length co116] 25 (0, 0)) (kb BK401)) : gb401 ≠ gb417)); have n14_ := Aside0.mk ((by rw [hg]; exact Nat.ne_of_gt (blk_lt (g := gb401) (o := .cells #[.int .i64 t394, .int .i64 t395, .int .i64 t396, .slice Ao116 t397.length co116] 25 (0, 0)) (kb BK401)) : gb417 ≠ gb401)); have n15_ := Aside0.mk ((by rw [hg]; exact Nat.ne_of_lt (blk_lt (g := gb409) (o := .cells #[.int .i64 t402, .int .i64 t403, .int .i64 t404, .slice Ao122 t405.length co122] 25 (0, 0)) (kb BK409)) : gb409 ≠ gb417)); have n16_ := Aside0.mk ((by rw [hg]; exact Nat.ne_of_gt (blk_lt (g := gb409) (o := .cells #[.int .i64 t402, .int .i64 t403, .int .i64 t404, .slice Ao122 t405.length co122] 25 (0, 0)) (kb BK409)) : gb417 ≠ gb409)); clear HO392; clear HO399; clear HO407; clear HO415; clear BK393; clear BK401; clear BK409; clear HB; have HO392 := n0_; have HO399 := n1_; have HO407 := n2_; have HO415 := n3_; have BK393 := n4_; have BK401 := n5_; have BK409 := n6_; have HB := n7_; have BK417 := n8_; have GW417 := n9_; have GE417 := n10_; have NB393_417 := n11_; have NB417_393 := n12_; have NB401_417 := n13_; have NB417_401 := n14_; have NB409_417 := n15_; have NB417_409 := n16_; clear n0_ n1_ n2_ n3_ n4_ n5_ n6_ n7_ n8_ n9_ n10_ n11_ n12_ n13_ n14_ n15_ n16_; clear hb hbox hg; have hnb126 := NB417_393.out; have hnc126 := NB393_417.out; have hnb127 := NB417_401.out; have hnc127 := NB401_417.out; have hnb128 := NB417_409.out; have hnc128 := NB409_417.out; have hcz129_0 : w125.cell? ⟨gb417, 0, none⟩ = some (.int .i64 0) := (blk_cell BK417.out 0).trans rfl; have hcz129_1 : w125.cell? ⟨gb417, 1, none⟩ = some (.int .i64 0) := (blk_cell BK417.out 1).trans rfl; have hcz129_2 : w125.cell? ⟨gb417, 2, none⟩ = some (.int .i64 0) := (blk_cell BK417.out 2).trans rfl; have hcz129_3 : w125.cell? ⟨gb417, 3, none⟩ = some (.slice none 0 0) := (blk_cell BK417.out 3).trans rfl; have hfz129_0 := blk_frozen BK417.out 0; have hfz129_1 := blk_frozen BK417.out 1; have hfz129_2 := blk_frozen BK417.out 2; have hfz129_3 := blk_frozen BK417.out 3; obtain ⟨Ao130, co130, eo130⟩ := Kd.R_slice HO415.out; subst eo130; have hcz131_0 : w125.cell? ⟨gb393, 0, none⟩ = some (.int .i64 t387) := (blk_cell BK393.out 0).trans rfl; have hcz131_1 : w125.cell? ⟨gb393, 1, none⟩ = some (.int .i64 t388) := (blk_cell BK393.out 1).trans rfl; have hcz131_2 : w125.cell? ⟨gb393, 2, none⟩ = some (.int .i64 t389) := (blk_cell BK393.out 2).trans rfl; have hcz131_3 : w125.cell? ⟨gb393, 3, none⟩ = some (.slice Ao111 t390.length co111) := (blk_cell BK393.out 3).trans rfl; have hfz131_0 := blk_frozen BK393.out 0; have hfz131_1 := blk_frozen BK393.out 1; have hfz131_2 := blk_frozen BK393.out 2; have hfz131_3 := blk_frozen BK393.out 3))
     go_ret
     exact ⟨er, bes⟩
 ·
  replace c10 := Bool.eq_false_iff.mpr c10
  subst c10
  rw [if_neg (show ¬ (false = true) by decide)] at H
  obtain rfl := Option.some.inj H
  go_enter Try.func6, Try.ntmps6
  go_wp2_with (first | ((with_reducible refine gate_callee (f := 7) rfl ?_); refine goesL_ (some 26) rfl rfl Try.func7 (by kernel_rfl) rfl #[] rfl ga ?_; (with_reducible refine (gimballaw09_head.calls k  false _ A9.out).mono ?_); rintro e w132 ⟨rfl, hb⟩; refine ⟨_, rfl, ?_⟩; have n0_ := Aside0.mk (below_step bel hb); clear HB; have HB := n0_; clear n0_; (try clear hb)))
  go_ret
  exact ⟨er, bel⟩

/-- THE ONE PURE STATEMENT of gimballaw09_MatParts: yours. -/
def gimballaw09_MatParts.Pure : Prop := ∀ (a0 : Int) (a1 : Int) (a2 : Int) (l3 : List Int) (a4 : Int) (a5 : Int) (a6 : Int) (a7 : Int), (Lit.int .i64 a0).wf = true → (Lit.int .i64 a1).wf = true → (Lit.int .i64 a2).wf = true → l3.length ≤ maxLen → l3.length * 8 ≤ 140737488351232 → (∀ x ∈ l3, (Lit.int .u64 x).wf = true) → (Lit.int .i64 a4).wf = true → (Lit.int .i64 a5).wf = true → (Lit.int .i64 a6).wf = true → (Lit.int .i64 a7).wf = true → ∃ k, gimballaw09_MatParts.f k a0 a1 a2 l3 a4 a5 a6 a7 = some true
theorem gimballaw09_MatParts.walk (P : gimballaw09_MatParts.Pure) (a0 : Int) (a1 : Int) (a2 : Int) (a3 : Option Addr) (len3 cap3 : Nat) (z3 : List Int) (a4 : Int) (a5 : Int) (a6 : Int) (a7 : Int) (w : World) (w0 : (Lit.int .i64 a0).wf = true) (w1 : (Lit.int .i64 a1).wf = true) (w2 : (Lit.int .i64 a2).wf = true) (w3 : (a3 = none ∧ len3 = 0 ∧ cap3 = 0 ∧ z3 = []) ∨ ∃ x, a3 = some x ∧ len3 ≤ cap3 ∧ cap3 ≤ maxLen ∧ z3.length = cap3 ∧ (∀ i, i < z3.length → w.cell? (x.add i) = some (.int .u64 (z3.getD i 0))) ∧ ∀ n ∈ z3, (Lit.int .u64 n).wf = true) (y3 : len3 * 8 ≤ 140737488351232) (w4 : (Lit.int .i64 a4).wf = true) (w5 : (Lit.int .i64 a5).wf = true) (w6 : (Lit.int .i64 a6).wf = true) (w7 : (Lit.int .i64 a7).wf = true) :
  Calls Try.prog 6 #[.int .i64 a0, .int .i64 a1, .int .i64 a2, .slice a3 len3 cap3, .int .i64 a4, .int .i64 a5, .int .i64 a6, .int .i64 a7] w fun e w' => e = .returned (.bool true) ∧ Below w.heap.size w w' := by
 obtain ⟨l3, rfl, hr3, hm3, hw3, hc3⟩ := ReadsInt.ofRowC w3
 obtain ⟨k, h⟩ := P a0 a1 a2 l3 a4 a5 a6 a7 w0 w1 w2 hm3 y3 hw3 w4 w5 w6 w7
 refine (gimballaw09_MatParts.calls k a0 a1 a2 _ _ l3 a4 a5 a6 a7 true w (Kd.C_of_reads (d := (0 : Int)) (h1 := fun _ => rfl) hr3) hc3 h).mono ?_
 rintro e w' ⟨rfl, hd⟩
 exact ⟨rfl, hd⟩

end Go.Proofs.Ytenegelkbfmjkaa.F
