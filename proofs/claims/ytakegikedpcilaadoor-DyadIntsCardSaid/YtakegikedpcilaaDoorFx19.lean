-- Written by a program of this seat's session (mkprint), out of the translation.
import Derived.Test.YtakegikedpcilaaDoorShort
import Derived.Test.YtakegikedpcilaaDoorFx0
import Derived.Test.YtakegikedpcilaaDoorFx2
import Derived.Test.YtakegikedpcilaaDoorFx4
import Derived.Test.YtakegikedpcilaaDoorFx8
import Derived.Test.YtakegikedpcilaaDoorFx9
import Derived.Test.YtakegikedpcilaaDoorFx11
import Derived.Test.YtakegikedpcilaaDoorFx18
namespace Go.Proofs.YtakegikedpcilaaDoor.F
open Go.RowKit Go.Proofs.YtakegikedpcilaaDoorW.PrintWords Go.Proofs.YtakegikedpcilaaDoorW.PrintLast Go.Proofs.YtakegikedpcilaaDoorW.PrintMore
attribute [local go_sem] max2_int min2_int max_two min_two max_three min_three max_four min_four   -- for this text's walks alone
set_option linter.unusedVariables false
set_option linter.unusedSimpArgs false

/-! ### gimballaw07_DyadInts: function 5 -/
mutual
def gimballaw07_DyadInts.j0 : Nat → Int → Int → Int → Bool → List Int → Int → Option (Bool)
 | 0, _, _, _, _, _, _ => none
 | k + 1, x0, x1, x6, x852000, x852001, x852002 => gimballaw07_DyadInts.l0 k x0 x1 x6 63 x852000 x852001 x852002 false ([] : List Int) 0
def gimballaw07_DyadInts.l0 : Nat → Int → Int → Int → Int → Bool → List Int → Int → Bool → List Int → Int → Option (Bool)
 | 0, _, _, _, _, _, _, _, _, _, _ => none
 | k + 1, x0, x1, x6, x8, x852000, x852001, x852002, x853000, x853001, x853002 => if x8 ≥ 0 then ((dyad_Num_Add.f k x853000 x853001 x853002 x853000 x853001 x853002).bind fun bt853 => (if 0 ≤ (IntKind.u64.wrap (x8)) then (if (Go.bits .and .u64 (shr .u64 x6 (IntKind.u64.wrap (x8))) 1) = 1 then ((dyad_Int.f k 1).bind fun bt858 => ((dyad_Num_Add.f k bt853.1 bt853.2.1 bt853.2.2 bt858.1 bt858.2.1 bt858.2.2).bind fun bt863 => (gimballaw07_DyadInts.l0 k x0 x1 x6 (wrap64 (x8 - 1)) x852000 x852001 x852002 bt863.1 bt863.2.1 bt863.2.2))) else (gimballaw07_DyadInts.l0 k x0 x1 x6 (wrap64 (x8 - 1)) x852000 x852001 x852002 bt853.1 bt853.2.1 bt853.2.2)) else (none))) else (if x0 < 0 then ((dyad_Num_Neg.f x853000 x853001 x853002).bind fun bt868 => (gimballaw07_DyadInts.j2 k x1 x852000 x852001 x852002 bt868.1 bt868.2.1 bt868.2.2)) else (gimballaw07_DyadInts.j2 k x1 x852000 x852001 x852002 x853000 x853001 x853002))
def gimballaw07_DyadInts.j2 : Nat → Int → Bool → List Int → Int → Bool → List Int → Int → Option (Bool)
 | 0, _, _, _, _, _, _, _ => none
 | k + 1, x1, x852000, x852001, x852002, x853000, x853001, x853002 => (dyad_Two.f (Go.bits .and .i64 x1 1023)).bind fun bt873 => ((dyad_Two.f (wrap64 (-(Go.bits .and .i64 x1 1023)))).bind fun bt878 => ((dyad_Num_Mul.f k bt873.1 bt873.2.1 bt873.2.2 bt878.1 bt878.2.1 bt878.2.2).bind fun bt883 => ((dyad_Two.f 0).bind fun bt889 => (gimballaw07_DyadInts.l1 k (Go.bits .and .i64 x1 1023) 0 x852000 x852001 x852002 x853000 x853001 x853002 bt883.1 bt883.2.1 bt883.2.2 bt889.1 bt889.2.1 bt889.2.2))))
def gimballaw07_DyadInts.l1 : Nat → Int → Int → Bool → List Int → Int → Bool → List Int → Int → Bool → List Int → Int → Bool → List Int → Int → Option (Bool)
 | 0, _, _, _, _, _, _, _, _, _, _, _, _, _, _ => none
 | k + 1, x1, x11, x852000, x852001, x852002, x853000, x853001, x853002, x889000, x889001, x889002, x895000, x895001, x895002 => if x11 < (Go.bits .and .i64 x1 31) then ((dyad_Num_Add.f k x895000 x895001 x895002 x895000 x895001 x895002).bind fun bt895 => (gimballaw07_DyadInts.l1 k x1 (wrap64 (x11 + 1)) x852000 x852001 x852002 x853000 x853001 x853002 x889000 x889001 x889002 bt895.1 bt895.2.1 bt895.2.2)) else ((dyad_Num_Same.f k x852000 x852001 x852002 x853000 x853001 x853002).bind fun t900 => (if t900 = true then ((dyad_Int.f k 1).bind fun bt901 => ((dyad_Num_Same.f k x889000 x889001 x889002 bt901.1 bt901.2.1 bt901.2.2).bind fun t906 => (if t906 = true then ((dyad_Two.f (Go.bits .and .i64 x1 31)).bind fun bt907 => ((dyad_Num_Same.f k x895000 x895001 x895002 bt907.1 bt907.2.1 bt907.2.2).bind fun t912 => (if t912 = true then ((dyad_Two.f 1099511627776).bind fun bt913 => ((dyad_Two.f 1048576).bind fun bt918 => ((dyad_Num_Same.f k bt913.1 bt913.2.1 bt913.2.2 bt918.1 bt918.2.1 bt918.2.2).bind fun t923 => (if t923 = true then ((dyad_Two.f (-1099511627776)).bind fun bt924 => ((dyad_Two.f (-1048576)).bind fun bt929 => ((dyad_Num_Same.f k bt924.1 bt924.2.1 bt924.2.2 bt929.1 bt929.2.1 bt929.2.2).bind fun t934 => (some t934)))) else (some false))))) else (some false)))) else (some false)))) else (some false)))
end
def gimballaw07_DyadInts.f (k : Nat) (a0 : Int) (a1 : Int) : Option (Bool) := (gimballaw07_head.f k).bind fun t845 => (if t845 = true then ((dyad_Int.f k a0).bind fun bt846 => (if a0 < 0 then (gimballaw07_DyadInts.j0 k a0 a1 (IntKind.u64.wrap (-(IntKind.u64.wrap (a0)))) bt846.1 bt846.2.1 bt846.2.2) else (gimballaw07_DyadInts.j0 k a0 a1 (IntKind.u64.wrap (a0)) bt846.1 bt846.2.1 bt846.2.2))) else (some false))
theorem gimballaw07_DyadInts.mono_l : ∀ k, (∀ y0 y1 y2 y3 y4 y5, LeO (gimballaw07_DyadInts.j0 k y0 y1 y2 y3 y4 y5) (gimballaw07_DyadInts.j0 (k + 1) y0 y1 y2 y3 y4 y5)) ∧ (∀ y0 y1 y2 y3 y4 y5 y6 y7 y8 y9, LeO (gimballaw07_DyadInts.l0 k y0 y1 y2 y3 y4 y5 y6 y7 y8 y9) (gimballaw07_DyadInts.l0 (k + 1) y0 y1 y2 y3 y4 y5 y6 y7 y8 y9)) ∧ (∀ y0 y1 y2 y3 y4 y5 y6, LeO (gimballaw07_DyadInts.j2 k y0 y1 y2 y3 y4 y5 y6) (gimballaw07_DyadInts.j2 (k + 1) y0 y1 y2 y3 y4 y5 y6)) ∧ (∀ y0 y1 y2 y3 y4 y5 y6 y7 y8 y9 y10 y11 y12 y13, LeO (gimballaw07_DyadInts.l1 k y0 y1 y2 y3 y4 y5 y6 y7 y8 y9 y10 y11 y12 y13) (gimballaw07_DyadInts.l1 (k + 1) y0 y1 y2 y3 y4 y5 y6 y7 y8 y9 y10 y11 y12 y13))
 | 0 => ⟨fun _ _ _ _ _ _ r h => by simp [gimballaw07_DyadInts.j0] at h, fun _ _ _ _ _ _ _ _ _ _ r h => by simp [gimballaw07_DyadInts.l0] at h, fun _ _ _ _ _ _ _ r h => by simp [gimballaw07_DyadInts.j2] at h, fun _ _ _ _ _ _ _ _ _ _ _ _ _ _ r h => by simp [gimballaw07_DyadInts.l1] at h⟩
 | k + 1 => by
  obtain ⟨ih0, ih1, ih2, ih3⟩ := gimballaw07_DyadInts.mono_l k
  refine ⟨?_, ?_, ?_, ?_⟩
  ·
   intro y0 y1 y2 y3 y4 y5
   unfold gimballaw07_DyadInts.j0
   repeat' first
   | (with_reducible exact ih0 _ _ _ _ _ _)
   | (with_reducible exact ih1 _ _ _ _ _ _ _ _ _ _)
   | (with_reducible exact ih2 _ _ _ _ _ _ _)
   | (with_reducible exact ih3 _ _ _ _ _ _ _ _ _ _ _ _ _ _)
   | (with_reducible exact dyad_Int.mono _ _)
   | (with_reducible exact dyad_Num_Add.mono _ _ _ _ _ _ _)
   | (with_reducible exact dyad_Num_Mul.mono _ _ _ _ _ _ _)
   | (with_reducible exact dyad_Num_Same.mono _ _ _ _ _ _ _)
   | (with_reducible exact gimballaw07_head.mono _)
   | (with_reducible exact LeO.refl _)
   | (with_reducible exact LeO.none _)
   | (with_reducible refine LeO.ite ?_ ?_)
   | (with_reducible refine LeO.bind ?_ (fun _ => ?_))
   | exact ih0 _ _ _ _ _ _
   | exact ih1 _ _ _ _ _ _ _ _ _ _
   | exact ih2 _ _ _ _ _ _ _
   | exact ih3 _ _ _ _ _ _ _ _ _ _ _ _ _ _
   | exact dyad_Int.mono _ _
   | exact dyad_Num_Add.mono _ _ _ _ _ _ _
   | exact dyad_Num_Mul.mono _ _ _ _ _ _ _
   | exact dyad_Num_Same.mono _ _ _ _ _ _ _
   | exact gimballaw07_head.mono _
   | exact LeO.none _
   | refine LeO.ite ?_ ?_
   | refine LeO.bind ?_ (fun _ => ?_)
  ·
   intro y0 y1 y2 y3 y4 y5 y6 y7 y8 y9
   unfold gimballaw07_DyadInts.l0
   repeat' first
   | (with_reducible exact ih0 _ _ _ _ _ _)
   | (with_reducible exact ih1 _ _ _ _ _ _ _ _ _ _)
   | (with_reducible exact ih2 _ _ _ _ _ _ _)
   | (with_reducible exact ih3 _ _ _ _ _ _ _ _ _ _ _ _ _ _)
   | (with_reducible exact dyad_Int.mono _ _)
   | (with_reducible exact dyad_Num_Add.mono _ _ _ _ _ _ _)
   | (with_reducible exact dyad_Num_Mul.mono _ _ _ _ _ _ _)
   | (with_reducible exact dyad_Num_Same.mono _ _ _ _ _ _ _)
   | (with_reducible exact gimballaw07_head.mono _)
   | (with_reducible exact LeO.refl _)
   | (with_reducible exact LeO.none _)
   | (with_reducible refine LeO.ite ?_ ?_)
   | (with_reducible refine LeO.bind ?_ (fun _ => ?_))
   | exact ih0 _ _ _ _ _ _
   | exact ih1 _ _ _ _ _ _ _ _ _ _
   | exact ih2 _ _ _ _ _ _ _
   | exact ih3 _ _ _ _ _ _ _ _ _ _ _ _ _ _
   | exact dyad_Int.mono _ _
   | exact dyad_Num_Add.mono _ _ _ _ _ _ _
   | exact dyad_Num_Mul.mono _ _ _ _ _ _ _
   | exact dyad_Num_Same.mono _ _ _ _ _ _ _
   | exact gimballaw07_head.mono _
   | exact LeO.none _
   | refine LeO.ite ?_ ?_
   | refine LeO.bind ?_ (fun _ => ?_)
  ·
   intro y0 y1 y2 y3 y4 y5 y6
   unfold gimballaw07_DyadInts.j2
   repeat' first
   | (with_reducible exact ih0 _ _ _ _ _ _)
   | (with_reducible exact ih1 _ _ _ _ _ _ _ _ _ _)
   | (with_reducible exact ih2 _ _ _ _ _ _ _)
   | (with_reducible exact ih3 _ _ _ _ _ _ _ _ _ _ _ _ _ _)
   | (with_reducible exact dyad_Int.mono _ _)
   | (with_reducible exact dyad_Num_Add.mono _ _ _ _ _ _ _)
   | (with_reducible exact dyad_Num_Mul.mono _ _ _ _ _ _ _)
   | (with_reducible exact dyad_Num_Same.mono _ _ _ _ _ _ _)
   | (with_reducible exact gimballaw07_head.mono _)
   | (with_reducible exact LeO.refl _)
   | (with_reducible exact LeO.none _)
   | (with_reducible refine LeO.ite ?_ ?_)
   | (with_reducible refine LeO.bind ?_ (fun _ => ?_))
   | exact ih0 _ _ _ _ _ _
   | exact ih1 _ _ _ _ _ _ _ _ _ _
   | exact ih2 _ _ _ _ _ _ _
   | exact ih3 _ _ _ _ _ _ _ _ _ _ _ _ _ _
   | exact dyad_Int.mono _ _
   | exact dyad_Num_Add.mono _ _ _ _ _ _ _
   | exact dyad_Num_Mul.mono _ _ _ _ _ _ _
   | exact dyad_Num_Same.mono _ _ _ _ _ _ _
   | exact gimballaw07_head.mono _
   | exact LeO.none _
   | refine LeO.ite ?_ ?_
   | refine LeO.bind ?_ (fun _ => ?_)
  ·
   intro y0 y1 y2 y3 y4 y5 y6 y7 y8 y9 y10 y11 y12 y13
   unfold gimballaw07_DyadInts.l1
   repeat' first
   | (with_reducible exact ih0 _ _ _ _ _ _)
   | (with_reducible exact ih1 _ _ _ _ _ _ _ _ _ _)
   | (with_reducible exact ih2 _ _ _ _ _ _ _)
   | (with_reducible exact ih3 _ _ _ _ _ _ _ _ _ _ _ _ _ _)
   | (with_reducible exact dyad_Int.mono _ _)
   | (with_reducible exact dyad_Num_Add.mono _ _ _ _ _ _ _)
   | (with_reducible exact dyad_Num_Mul.mono _ _ _ _ _ _ _)
   | (with_reducible exact dyad_Num_Same.mono _ _ _ _ _ _ _)
   | (with_reducible exact gimballaw07_head.mono _)
   | (with_reducible exact LeO.refl _)
   | (with_reducible exact LeO.none _)
   | (with_reducible refine LeO.ite ?_ ?_)
   | (with_reducible refine LeO.bind ?_ (fun _ => ?_))
   | exact ih0 _ _ _ _ _ _
   | exact ih1 _ _ _ _ _ _ _ _ _ _
   | exact ih2 _ _ _ _ _ _ _
   | exact ih3 _ _ _ _ _ _ _ _ _ _ _ _ _ _
   | exact dyad_Int.mono _ _
   | exact dyad_Num_Add.mono _ _ _ _ _ _ _
   | exact dyad_Num_Mul.mono _ _ _ _ _ _ _
   | exact dyad_Num_Same.mono _ _ _ _ _ _ _
   | exact gimballaw07_head.mono _
   | exact LeO.none _
   | refine LeO.ite ?_ ?_
   | refine LeO.bind ?_ (fun _ => ?_)
theorem gimballaw07_DyadInts.mono : ∀ a0 a1 k, LeO (gimballaw07_DyadInts.f k a0 a1) (gimballaw07_DyadInts.f (k + 1) a0 a1) := by
 intro a0 a1 k
 obtain ⟨ih0, ih1, ih2, ih3⟩ := gimballaw07_DyadInts.mono_l k
 unfold gimballaw07_DyadInts.f
 repeat' first
   | (with_reducible exact ih0 _ _ _ _ _ _)
   | (with_reducible exact ih1 _ _ _ _ _ _ _ _ _ _)
   | (with_reducible exact ih2 _ _ _ _ _ _ _)
   | (with_reducible exact ih3 _ _ _ _ _ _ _ _ _ _ _ _ _ _)
   | (with_reducible exact dyad_Int.mono _ _)
   | (with_reducible exact dyad_Num_Add.mono _ _ _ _ _ _ _)
   | (with_reducible exact dyad_Num_Mul.mono _ _ _ _ _ _ _)
   | (with_reducible exact dyad_Num_Same.mono _ _ _ _ _ _ _)
   | (with_reducible exact gimballaw07_head.mono _)
   | (with_reducible exact LeO.refl _)
   | (with_reducible exact LeO.none _)
   | (with_reducible refine LeO.ite ?_ ?_)
   | (with_reducible refine LeO.bind ?_ (fun _ => ?_))
   | exact ih0 _ _ _ _ _ _
   | exact ih1 _ _ _ _ _ _ _ _ _ _
   | exact ih2 _ _ _ _ _ _ _
   | exact ih3 _ _ _ _ _ _ _ _ _ _ _ _ _ _
   | exact dyad_Int.mono _ _
   | exact dyad_Num_Add.mono _ _ _ _ _ _ _
   | exact dyad_Num_Mul.mono _ _ _ _ _ _ _
   | exact dyad_Num_Same.mono _ _ _ _ _ _ _
   | exact gimballaw07_head.mono _
   | exact LeO.none _
   | refine LeO.ite ?_ ?_
   | refine LeO.bind ?_ (fun _ => ?_)
def gimballaw07_DyadInts.T23 : Bool × List (List Nat × List Nat) := (true, [([], []), ([], []), ([0, 1], [0, 1]), ([2, 2], [2]), ([3], [3]), ([3, 3], [3]), ([4, 5, 5, 3], [3, 4, 5]), ([3, 6], [3, 6]), ([7, 6], [7]), ([8], [8]), ([8], [8]), ([10, 8], [8, 10]), ([11, 8, 8], [8, 11]), ([9, 12, 12, 8], [8, 9, 12]), ([8, 13], [8, 13]), ([14, 13], [14]), ([15, 15], [15]), ([16, 15], [15]), ([16, 17, 17, 15], [15, 16, 17]), ([15, 18], [15, 18]), ([19, 18], [19]), ([20, 20], [20]), ([21, 20], [20]), ([21, 22, 22, 20], [20, 21, 22]), ([20, 23], [20, 23]), ([24, 23, 0, 1, 2, 3, 4, 5, 6, 7, 8, 9, 10, 11, 12, 13, 14, 15, 16, 17, 18, 19, 20, 21, 22, 23, 24], [24])])
def gimballaw07_DyadInts.B23 : List Nat := [0, 0, 3, 7, 15, 15, 63, 127, 255, 511, 511, 1535, 3583, 8191, 16383, 32767, 65535, 131071, 262143, 524287, 1048575, 2097151, 4194303, 8388607, 16777215, 33554431]
theorem gimballaw07_DyadInts.tab23 : rtab .any (opsOf Tryd.f5 23) = gimballaw07_DyadInts.T23 := by kernel_rfl
theorem gimballaw07_DyadInts.bits23 : waitsOk gimballaw07_DyadInts.T23.2 gimballaw07_DyadInts.B23 = true := by kernel_rfl
set_option maxHeartbeats 8000000 in
set_option maxRecDepth 100000 in
theorem gimballaw07_DyadInts.calls (k : Nat) (a0 : Int) (a1 : Int) (r : Bool) (w : World) (hT : TabW w) (h : gimballaw07_DyadInts.f k a0 a1 = some r) :
  Calls Tryd.prog 5 #[.int .i64 a0, .int .i64 a1] w fun e w' => e = .returned (.bool r) ∧ Below w.heap.size w w' := by
 have hu26 := Tryd.underlying26
 have HB := Aside0.mk (Below.refl w.heap.size w)
 have H : ((gimballaw07_head.f k).bind fun t845 => (if t845 = true then ((dyad_Int.f k a0).bind fun bt846 => (if a0 < 0 then (gimballaw07_DyadInts.j0 k a0 a1 (IntKind.u64.wrap (-(IntKind.u64.wrap (a0)))) bt846.1 bt846.2.1 bt846.2.2) else (gimballaw07_DyadInts.j0 k a0 a1 (IntKind.u64.wrap (a0)) bt846.1 bt846.2.1 bt846.2.2))) else (some false))) = some r := h
 clear h
 obtain ⟨t845, A30, H⟩ := Option.bind_eq_some_iff.mp H
 (try dsimp -simprocs only at H)
 have A3 := Aside0.mk A30
 clear A30
 by_cases c4 : t845 = true
 ·
  subst c4
  rw [if_pos rfl] at H
  obtain ⟨⟨t846, t847, t850⟩, A50, H⟩ := Option.bind_eq_some_iff.mp H
  (try dsimp -simprocs only at H)
  have A5 := Aside0.mk A50
  clear A50
  have HC6 := Aside0.mk H
  clear H
  go_enter Tryd.func5, Tryd.ntmps5
  go_upto_if 19 with (first | ((with_reducible refine gate_callee (f := 7) rfl ?_); refine goesL_ (some 12) rfl rfl Tryd.func7 (by kernel_rfl) rfl #[] rfl ga ?_; (with_reducible refine (gimballaw07_head.calls k  true _ ?side1 A3.out).mono ?_); (case side1 => first | exact hT | exact TabW.drewN hT _ | exact TabW.drew hT | exact TabW.below hT bel); rintro e w7 ⟨rfl, hb⟩; refine ⟨_, rfl, ?_⟩; have n0_ := Aside0.mk (below_step bel hb); clear HB; have HB := n0_; clear n0_; (try clear hb)) | ((with_reducible refine gate_callee (f := 25) rfl ?_); refine goesL_ (some 15) rfl rfl Tryd.func25 (by kernel_rfl) rfl #[.int .i64 a0] rfl ga ?_; (with_reducible refine (dyad_Int.calls k a0 t846 t847 t850 _ ?side1 A5.out).mono ?_); (case side1 => first | exact hT | exact TabW.drewN hT _ | exact TabW.drew hT | exact TabW.below hT bel); rintro e w8 ⟨v848, rfl, ho0, hb⟩; refine ⟨_, rfl, ?_⟩; have n0_ := Aside0.mk (Kd.V_lower (Kd.V_mono (ok' := fun k_ => True) ho0 (fun k_ hk_ => trivial)) (below_size bel)); have n1_ := Aside0.mk (below_step bel hb); clear HB; have HO849 := n0_; have HB := n1_; clear n0_ n1_; (try clear hb); (try clear ho0)) | ((with_reducible refine gate_dst (N := 5) rfl ?_); refine box_event ?hg (N := 5) ?hd (cs := #[.bool false, .slice none 0 0, .int .i64 0]) (t := 26) ?hr ?_; (case hd => rfl); (case hg => rfl); (case hr => first | (go_simp; done) | (go_simp; rfl)); intro gb851 hg w9 hbox hb; have n0_ := Aside0.mk (Kd.V_below (Kd.V_elderB (kv HO849) gb851 (Nat.le_of_eq hg.symm)) hb); have n1_ := Aside0.mk (below_step bel hb); have n2_ := Aside0.mk (hbox); have n3_ := Aside0.mk ((by rw [hg]; exact (below_size bel) : w.heap.size ≤ gb851)); have n4_ := Aside0.mk ((by rw [hg]; exact (below_size bel) : w.heap.size ≤ gb851)); clear HO849; clear HB; have HO849 := n0_; have HB := n1_; have BK851 := n2_; have GW851 := n3_; have GE851 := n4_; clear n0_ n1_ n2_ n3_ n4_; clear hb hbox hg; have hcz10_0 : w9.cell? ⟨gb851, 0, none⟩ = some (.bool false) := (blk_cell BK851.out 0).trans rfl; have hcz10_1 : w9.cell? ⟨gb851, 1, none⟩ = some (.slice none 0 0) := (blk_cell BK851.out 1).trans rfl; have hcz10_2 : w9.cell? ⟨gb851, 2, none⟩ = some (.int .i64 0) := (blk_cell BK851.out 2).trans rfl; have hfz10_0 := blk_frozen BK851.out 0; have hfz10_1 := blk_frozen BK851.out 1; have hfz10_2 := blk_frozen BK851.out 2; obtain ⟨Ao11, co11, eo11⟩ := Kd.V_slice HO849.out; subst eo11))
  (try simp only [Act.put, sa0, sa1, sa2])
  go_cut [6] (fun v6 wc => ∃ (kq : Nat) (x6_5 : Int), v6 = .int .u64 x6_5 ∧ Aside0 (gimballaw07_DyadInts.j0 kq a0 a1 x6_5 t846 t847 t850 = some r) ∧ Aside0 (kq ≤ k) ∧ Aside0 (Kd.V (Kd.int .u32) 56 wc w.heap.size (fun k_ => k_ ≠ gb851) (.slice Ao11 t847.length co11) t847) ∧ Aside0 (wc.heap[gb851]? = some (.cells #[.bool t846, (.slice Ao11 t847.length co11), .int .i64 t850] 26 (0, 0))) ∧ Aside0 (Below w.heap.size w wc))
  case first =>
   have H := HC6.out
   clear HC6
   by_cases c12 : a0 < 0
   ·
    rw [if_pos c12] at H
    have c12b0 : decide (a0 < 0) = true := decide_eq_true c12
    clear c12
    (first | rw [c12b0] | (simp only [i64_w, i32_w]; rw [c12b0]) | skip)
    have H' := Aside0.mk H
    clear H
    go_wp2
    go_meet
    case rel => exact ⟨_, (IntKind.u64.wrap (-(IntKind.u64.wrap (a0)))), (by first | rfl | (simp; done) | (simp [*]; done)), H', ⟨by first | omega | exact Nat.le_refl _⟩, ⟨by (with_reducible repeat (first | apply Kd.V_alloc | apply Kd.V_drewN | apply Kd.V_drew)); exact Kd.V_mono (Kd.V_far (p := ⟨gb851, 2, none⟩) (Kd.V_far (p := ⟨gb851, 1, none⟩) (Kd.V_far (p := ⟨gb851, 0, none⟩) (Kd.V_mono HO849.out (fun k_ hk => (⟨hk, hk.2⟩ : _ ∧ k_ ≠ gb851))) (fun _ hk => hk.2) (.bool t846)) (fun _ hk => hk.2) (.slice Ao11 t847.length co11)) (fun _ hk => hk.2) (.int .i64 t850)) (fun _ hk => hk.1.2)⟩, ⟨by (with_reducible repeat (first | refine blk_drewN ?_ _ | refine blk_drew ?_ | refine blk_alloc ?_ _)); refine blk_put (cs := #[.bool t846, .slice Ao11 t847.length co11, .int .i64 0]) ?_ 2 _ rfl; (with_reducible repeat (first | refine blk_drewN ?_ _ | refine blk_drew ?_ | refine blk_alloc ?_ _)); refine blk_put (cs := #[.bool t846, .slice none 0 0, .int .i64 0]) ?_ 1 _ rfl; (with_reducible repeat (first | refine blk_drewN ?_ _ | refine blk_drew ?_ | refine blk_alloc ?_ _)); refine blk_put (cs := #[.bool false, .slice none 0 0, .int .i64 0]) ?_ 0 _ rfl; (with_reducible repeat (first | refine blk_drewN ?_ _ | refine blk_drew ?_ | refine blk_alloc ?_ _)); exact BK851.out⟩, ⟨bes⟩⟩
   ·
    rw [if_neg c12] at H
    have c12b0 : decide (a0 < 0) = false := decide_eq_false c12
    clear c12
    (first | rw [c12b0] | (simp only [i64_w, i32_w]; rw [c12b0]) | skip)
    have H' := Aside0.mk H
    clear H
    go_wp2
    go_meet
    case rel => exact ⟨_, (IntKind.u64.wrap (a0)), (by first | rfl | (simp; done) | (simp [*]; done)), H', ⟨by first | omega | exact Nat.le_refl _⟩, ⟨by (with_reducible repeat (first | apply Kd.V_alloc | apply Kd.V_drewN | apply Kd.V_drew)); exact Kd.V_mono (Kd.V_far (p := ⟨gb851, 2, none⟩) (Kd.V_far (p := ⟨gb851, 1, none⟩) (Kd.V_far (p := ⟨gb851, 0, none⟩) (Kd.V_mono HO849.out (fun k_ hk => (⟨hk, hk.2⟩ : _ ∧ k_ ≠ gb851))) (fun _ hk => hk.2) (.bool t846)) (fun _ hk => hk.2) (.slice Ao11 t847.length co11)) (fun _ hk => hk.2) (.int .i64 t850)) (fun _ hk => hk.1.2)⟩, ⟨by (with_reducible repeat (first | refine blk_drewN ?_ _ | refine blk_drew ?_ | refine blk_alloc ?_ _)); refine blk_put (cs := #[.bool t846, .slice Ao11 t847.length co11, .int .i64 0]) ?_ 2 _ rfl; (with_reducible repeat (first | refine blk_drewN ?_ _ | refine blk_drew ?_ | refine blk_alloc ?_ _)); refine blk_put (cs := #[.bool t846, .slice none 0 0, .int .i64 0]) ?_ 1 _ rfl; (with_reducible repeat (first | refine blk_drewN ?_ _ | refine blk_drew ?_ | refine blk_alloc ?_ _)); refine blk_put (cs := #[.bool false, .slice none 0 0, .int .i64 0]) ?_ 0 _ rfl; (with_reducible repeat (first | refine blk_drewN ?_ _ | refine blk_drew ?_ | refine blk_alloc ?_ _)); exact BK851.out⟩, ⟨bes⟩⟩
  case rest =>
   clear HC6
   try clear c1
   try clear c2
   try clear p2
   try clear c4
   try clear c5
   try clear c7
   try clear c12
   try clear c12b0
   try clear hcz10_0
   try clear hcz10_1
   try clear hcz10_2
   try clear hfz10_0
   try clear hfz10_1
   try clear hfz10_2
   obtain ⟨kq, x6_5, rfl, HA, HJ5, HO_852001, BK851, HB⟩ := hcut
   cases kq with
   | zero => exact absurd HA.out (by simp [gimballaw07_DyadInts.j0])
   | succ kj5 =>
    have H := HA.out
    clear HA
    simp only [gimballaw07_DyadInts.j0] at H
    have H' := Aside0.mk H
    clear H
    go_wp2_with (first | ((with_reducible refine gate_dst (N := 7) rfl ?_); refine box_event ?hg (N := 7) ?hd (cs := #[.bool false, .slice none 0 0, .int .i64 0]) (t := 26) ?hr ?_; (case hd => rfl); (case hg => rfl); (case hr => first | (go_simp; done) | (go_simp; rfl)); intro gb852 hg w13 hbox hb; have n0_ := Aside0.mk (Kd.V_below (Kd.V_elderB (kv HO_852001) gb852 (Nat.le_of_eq hg.symm)) hb); have n1_ := Aside0.mk (blk_below (g := gb851) (o := .cells #[.bool t846, .slice Ao11 t847.length co11, .int .i64 t850] 26 (0, 0)) (kb BK851) hb); have n2_ := Aside0.mk (below_step bes hb); have n3_ := Aside0.mk (hbox); have n4_ := Aside0.mk ((by rw [hg]; exact (below_size bes) : w.heap.size ≤ gb852)); have n5_ := Aside0.mk ((by rw [hg]; exact (below_size bes) : w.heap.size ≤ gb852)); have n6_ := Aside0.mk ((by rw [hg]; exact Nat.ne_of_lt (blk_lt (g := gb851) (o := .cells #[.bool t846, .slice Ao11 t847.length co11, .int .i64 t850] 26 (0, 0)) (kb BK851)) : gb851 ≠ gb852)); have n7_ := Aside0.mk ((by rw [hg]; exact Nat.ne_of_gt (blk_lt (g := gb851) (o := .cells #[.bool t846, .slice Ao11 t847.length co11, .int .i64 t850] 26 (0, 0)) (kb BK851)) : gb852 ≠ gb851)); clear HO_852001; clear BK851; clear HB; have HO_852001 := n0_; have BK851 := n1_; have HB := n2_; have BK852 := n3_; have GW852 := n4_; have GE852 := n5_; have NB851_852 := n6_; have NB852_851 := n7_; clear n0_ n1_ n2_ n3_ n4_ n5_ n6_ n7_; clear hb hbox hg; have hnb14 := NB852_851.out; have hnc14 := NB851_852.out; have hcz15_0 : w13.cell? ⟨gb852, 0, none⟩ = some (.bool false) := (blk_cell BK852.out 0).trans rfl; have hcz15_1 : w13.cell? ⟨gb852, 1, none⟩ = some (.slice none 0 0) := (blk_cell BK852.out 1).trans rfl; have hcz15_2 : w13.cell? ⟨gb852, 2, none⟩ = some (.int .i64 0) := (blk_cell BK852.out 2).trans rfl; have hfz15_0 := blk_frozen BK852.out 0; have hfz15_1 := blk_frozen BK852.out 1; have hfz15_2 := blk_frozen BK852.out 2))
    go_loopg [8] kj5 (fun kq v8 w' => ∃ (x8_2 : Int) (x853000_2 : Bool) (x853001_2 : List Int) (x853002_2 : Int) (u853001 : Value), v8 = .int .i64 x8_2 ∧ Aside0 (gimballaw07_DyadInts.l0 kq a0 a1 x6_5 x8_2 t846 t847 t850 x853000_2 x853001_2 x853002_2 = some r) ∧ Aside0 (kq ≤ kj5) ∧ Aside0 (Kd.V (Kd.int .u32) 56 w' w.heap.size (fun k_ => k_ ≠ gb851 ∧ k_ ≠ gb852) (.slice Ao11 t847.length co11) t847) ∧ Aside0 (Kd.V (Kd.int .u32) 56 w' w.heap.size (fun k_ => k_ ≠ gb851 ∧ k_ ≠ gb852) u853001 x853001_2) ∧ Aside0 (w'.heap[gb851]? = some (.cells #[.bool t846, (.slice Ao11 t847.length co11), .int .i64 t850] 26 (0, 0))) ∧ Aside0 (w'.heap[gb852]? = some (.cells #[.bool x853000_2, u853001, .int .i64 x853002_2] 26 (0, 0))) ∧ Aside0 (Below w.heap.size w w'))
    case atStart => exact ⟨(63), (false), (([] : List Int)), (0), (.slice none 0 0), (by first | rfl | (simp; done) | (simp [*]; done)), H', ⟨Nat.le_refl _⟩, ⟨by (with_reducible repeat (first | apply Kd.V_alloc | apply Kd.V_drewN | apply Kd.V_drew)); exact Kd.V_mono (Kd.V_far (p := ⟨gb852, 2, none⟩) (Kd.V_far (p := ⟨gb852, 1, none⟩) (Kd.V_far (p := ⟨gb852, 0, none⟩) (Kd.V_mono HO_852001.out (fun k_ hk => (⟨hk, hk.2⟩ : _ ∧ k_ ≠ gb852))) (fun _ hk => hk.2) (.bool false)) (fun _ hk => hk.2) (.slice none 0 0)) (fun _ hk => hk.2) (.int .i64 0)) (fun _ hk => ⟨hk.1.1, hk.1.2⟩)⟩, ⟨Kd.V_nil _ _ _ _ _⟩, ⟨by (with_reducible repeat (first | refine blk_drewN ?_ _ | refine blk_drew ?_ | refine blk_alloc ?_ _)); refine blk_far ?_ NB851_852.out _; (with_reducible repeat (first | refine blk_drewN ?_ _ | refine blk_drew ?_ | refine blk_alloc ?_ _)); refine blk_far ?_ NB851_852.out _; (with_reducible repeat (first | refine blk_drewN ?_ _ | refine blk_drew ?_ | refine blk_alloc ?_ _)); refine blk_far ?_ NB851_852.out _; (with_reducible repeat (first | refine blk_drewN ?_ _ | refine blk_drew ?_ | refine blk_alloc ?_ _)); exact BK851.out⟩, ⟨by (with_reducible repeat (first | refine blk_drewN ?_ _ | refine blk_drew ?_ | refine blk_alloc ?_ _)); refine blk_put (cs := #[.bool false, .slice none 0 0, .int .i64 0]) ?_ 2 _ rfl; (with_reducible repeat (first | refine blk_drewN ?_ _ | refine blk_drew ?_ | refine blk_alloc ?_ _)); refine blk_put (cs := #[.bool false, .slice none 0 0, .int .i64 0]) ?_ 1 _ rfl; (with_reducible repeat (first | refine blk_drewN ?_ _ | refine blk_drew ?_ | refine blk_alloc ?_ _)); refine blk_put (cs := #[.bool false, .slice none 0 0, .int .i64 0]) ?_ 0 _ rfl; (with_reducible repeat (first | refine blk_drewN ?_ _ | refine blk_drew ?_ | refine blk_alloc ?_ _)); exact BK852.out⟩, ⟨bes⟩⟩
    case round =>
     clear H'
     try clear c1
     try clear c2
     try clear p2
     try clear c4
     try clear c5
     try clear c7
     try clear c12
     try clear c12b0
     try clear c14
     try clear hcz10_0
     try clear hcz10_1
     try clear hcz10_2
     try clear hcz15_0
     try clear hcz15_1
     try clear hcz15_2
     try clear hfz10_0
     try clear hfz10_1
     try clear hfz10_2
     try clear hfz15_0
     try clear hfz15_1
     try clear hfz15_2
     try clear p2
     obtain ⟨x8_2, x853000_2, x853001_2, x853002_2, u853001, rfl, HA, HK2, HO_852001, HO_853001, BK851, BK852, HB⟩ := hrel
     cases gk with
     | zero => exact absurd HA.out (by simp [gimballaw07_DyadInts.l0])
     | succ k2 =>
      have H := HA.out
      clear HA
      simp only [gimballaw07_DyadInts.l0] at H
      by_cases c16 : x8_2 ≥ 0
      ·
       rw [if_pos c16] at H
       have c16b0 : decide (0 ≤ x8_2) = true := decide_eq_true c16
       clear c16
       obtain ⟨⟨t853, t854, t857⟩, A170, H⟩ := Option.bind_eq_some_iff.mp H
       (try dsimp -simprocs only at H)
       have A17 := Aside0.mk A170
       clear A170
       obtain ⟨ji18, hji18⟩ : ∃ j_ : Int, (IntKind.u64.wrap (x8_2)) = j_ := ⟨_, rfl⟩
       replace H : (if 0 ≤ (ji18) then (if (Go.bits .and .u64 (shr .u64 x6_5 (ji18)) 1) = 1 then ((dyad_Int.f k2 1).bind fun bt858 => ((dyad_Num_Add.f k2 t853 t854 t857 bt858.1 bt858.2.1 bt858.2.2).bind fun bt863 => (gimballaw07_DyadInts.l0 k2 a0 a1 x6_5 (wrap64 (x8_2 - 1)) t846 t847 t850 bt863.1 bt863.2.1 bt863.2.2))) else (gimballaw07_DyadInts.l0 k2 a0 a1 x6_5 (wrap64 (x8_2 - 1)) t846 t847 t850 t853 t854 t857)) else (none)) = some r := by first | (rw [hji18] at H; exact H) | (simp only [hji18] at H ⊢; exact H)
       (try rw [hji18] at A17)
       by_cases c19 : 0 ≤ (ji18)
       ·
        rw [if_pos c19] at H
        have c19b0 := eq_true c19
        have c19b1 : decide (0 ≤ (ji18)) = true := decide_eq_true c19
        clear c19
        obtain ⟨ji20, hji20⟩ : ∃ j_ : Int, (shr .u64 x6_5 (ji18)) = j_ := ⟨_, rfl⟩
        replace H : (if (Go.bits .and .u64 (ji20) 1) = 1 then ((dyad_Int.f k2 1).bind fun bt858 => ((dyad_Num_Add.f k2 t853 t854 t857 bt858.1 bt858.2.1 bt858.2.2).bind fun bt863 => (gimballaw07_DyadInts.l0 k2 a0 a1 x6_5 (wrap64 (x8_2 - 1)) t846 t847 t850 bt863.1 bt863.2.1 bt863.2.2))) else (gimballaw07_DyadInts.l0 k2 a0 a1 x6_5 (wrap64 (x8_2 - 1)) t846 t847 t850 t853 t854 t857)) = some r := by first | (rw [hji20] at H; exact H) | (simp only [hji20] at H ⊢; exact H)
        (try rw [hji20] at A17)
        have hji20_ : (x6_5 / 2 ^ min (ji18).toNat 64) = ji20 := hji20
        have hji20z : (ji18) ≤ 64 → (x6_5 / 2 ^ (ji18).toNat) = ji20 := shr_small hji20
        by_cases c21 : (Go.bits .and .u64 (ji20) 1) = 1
        ·
         rw [if_pos c21] at H
         have c21b0 : ((Go.bits .and .u64 (ji20) 1) == 1) = true := beq_iff_eq.mpr c21
         have c21b1 : ((Go.bits .and .u64 (ji20) 1) != 1) = false := bne_eq_false_iff_eq.mpr c21
         clear c21
         obtain ⟨⟨t858, t859, t862⟩, A220, H⟩ := Option.bind_eq_some_iff.mp H
         (try dsimp -simprocs only at H)
         have A22 := Aside0.mk A220
         clear A220
         obtain ⟨⟨t863, t864, t867⟩, A230, H⟩ := Option.bind_eq_some_iff.mp H
         (try dsimp -simprocs only at H)
         have A23 := Aside0.mk A230
         clear A230
         have H' := Aside0.mk H
         clear H
         have hnb24 := NB852_851.out
         have hnc24 := NB851_852.out
         have hcz25_0 : wr.cell? ⟨gb852, 0, none⟩ = some (.bool x853000_2) := (blk_cell BK852.out 0).trans rfl
         have hcz25_1 : wr.cell? ⟨gb852, 1, none⟩ = some (u853001) := (blk_cell BK852.out 1).trans rfl
         have hcz25_2 : wr.cell? ⟨gb852, 2, none⟩ = some (.int .i64 x853002_2) := (blk_cell BK852.out 2).trans rfl
         have hfz25_0 := blk_frozen BK852.out 0
         have hfz25_1 := blk_frozen BK852.out 1
         have hfz25_2 := blk_frozen BK852.out 2
         obtain ⟨Ao26, co26, eo26⟩ := Kd.V_slice HO_853001.out
         subst eo26
         try go_wp2_with (first | ((with_reducible refine gate_callee (f := 11) rfl ?_); refine goesL_ (some 29) rfl rfl Tryd.func11 (by kernel_rfl) rfl #[.agg #[.bool x853000_2, .slice Ao26 x853001_2.length co26, .int .i64 x853002_2], .agg #[.bool x853000_2, .slice Ao26 x853001_2.length co26, .int .i64 x853002_2]] rfl ga ?_; (with_reducible refine (dyad_Num_Add.calls k2 x853000_2 (fun k_ => (k_ ≠ gb851 ∧ k_ ≠ gb852)) _ _ x853001_2 x853002_2 x853000_2 (fun k_ => (k_ ≠ gb851 ∧ k_ ≠ gb852)) _ _ x853001_2 x853002_2 t853 t854 t857 _ ?side1 ?side2 ?side3 A17.out).mono ?_); (case side1 => exact HO_853001.out); (case side2 => exact HO_853001.out); (case side3 => first | exact hT | exact TabW.drewN hT _ | exact TabW.drew hT | exact TabW.below hT bes); rintro e w27 ⟨v855, rfl, ho0, hb⟩; refine ⟨_, rfl, ?_⟩; have n0_ := Aside0.mk (Kd.V_below (kv HO_852001) hb); have n1_ := Aside0.mk (Kd.V_below (kv HO_853001) hb); have n2_ := Aside0.mk (Kd.V_lower (Kd.V_mono (ok' := fun k_ => k_ ≠ gb851 ∧ k_ ≠ gb852) ho0 (fun k_ hk_ => ⟨Or.elim hk_ (fun hs_ => Or.elim hs_ (fun hs_ => hs_.1) (fun hs_ => hs_.1)) (fun hn_ => (Kd.freshB (g := gb851) (o := .cells #[.bool t846, .slice Ao11 t847.length co11, .int .i64 t850] 26 (0, 0)) (kb BK851) k_ hn_)), Or.elim hk_ (fun hs_ => Or.elim hs_ (fun hs_ => hs_.2) (fun hs_ => hs_.2)) (fun hn_ => (Kd.freshB (g := gb852) (o := .cells #[.bool x853000_2, .slice Ao26 x853001_2.length co26, .int .i64 x853002_2] 26 (0, 0)) (kb BK852) k_ hn_))⟩)) (below_size bes)); have n3_ := Aside0.mk (blk_below (g := gb851) (o := .cells #[.bool t846, .slice Ao11 t847.length co11, .int .i64 t850] 26 (0, 0)) (kb BK851) hb); have n4_ := Aside0.mk (blk_below (g := gb852) (o := .cells #[.bool x853000_2, .slice Ao26 x853001_2.length co26, .int .i64 x853002_2] 26 (0, 0)) (kb BK852) hb); have n5_ := Aside0.mk (below_step bes hb); clear HO_852001; clear HO_853001; clear BK851; clear BK852; clear HB; have HO_852001 := n0_; have HO_853001 := n1_; have HO856 := n2_; have BK851 := n3_; have BK852 := n4_; have HB := n5_; clear n0_ n1_ n2_ n3_ n4_ n5_; (try clear hb); (try clear ho0); have hcz28_0 : w27.cell? ⟨gb852, 0, none⟩ = some (.bool x853000_2) := (blk_cell BK852.out 0).trans rfl; have hcz28_1 : w27.cell? ⟨gb852, 1, none⟩ = some (.slice Ao26 x853001_2.length co26) := (blk_cell BK852.out 1).trans rfl; have hcz28_2 : w27.cell? ⟨gb852, 2, none⟩ = some (.int .i64 x853002_2) := (blk_cell BK852.out 2).trans rfl; have hfz28_0 := blk_frozen BK852.out 0; have hfz28_1 := blk_frozen BK852.out 1; have hfz28_2 := blk_frozen BK852.out 2; obtain ⟨Ao29, co29, eo29⟩ := Kd.V_slice HO856.out; subst eo29))
         have n0_ : Aside0 (Kd.V (Kd.int .u32) 56 (((w27.setCell ⟨gb852, 0, none⟩ (.bool t853)).setCell ⟨gb852, 1, none⟩ (.slice Ao29 t854.length co29)).setCell ⟨gb852, 2, none⟩ (.int .i64 t857)) w.heap.size (fun k_ => k_ ≠ gb851 ∧ k_ ≠ gb852) (.slice Ao11 t847.length co11) t847) := ⟨by (with_reducible repeat (first | apply Kd.V_alloc | apply Kd.V_drewN | apply Kd.V_drew)); exact Kd.V_mono (Kd.V_far (p := ⟨gb852, 2, none⟩) (Kd.V_far (p := ⟨gb852, 1, none⟩) (Kd.V_far (p := ⟨gb852, 0, none⟩) (Kd.V_mono HO_852001.out (fun k_ hk => (⟨hk, hk.2⟩ : _ ∧ k_ ≠ gb852))) (fun _ hk => hk.2) (.bool t853)) (fun _ hk => hk.2) (.slice Ao29 t854.length co29)) (fun _ hk => hk.2) (.int .i64 t857)) (fun _ hk => ⟨hk.1.1, hk.1.2⟩)⟩
         have n1_ : Aside0 (Kd.V (Kd.int .u32) 56 (((w27.setCell ⟨gb852, 0, none⟩ (.bool t853)).setCell ⟨gb852, 1, none⟩ (.slice Ao29 t854.length co29)).setCell ⟨gb852, 2, none⟩ (.int .i64 t857)) w.heap.size (fun k_ => k_ ≠ gb851 ∧ k_ ≠ gb852) (.slice Ao26 x853001_2.length co26) x853001_2) := ⟨by (with_reducible repeat (first | apply Kd.V_alloc | apply Kd.V_drewN | apply Kd.V_drew)); exact Kd.V_mono (Kd.V_far (p := ⟨gb852, 2, none⟩) (Kd.V_far (p := ⟨gb852, 1, none⟩) (Kd.V_far (p := ⟨gb852, 0, none⟩) (Kd.V_mono HO_853001.out (fun k_ hk => (⟨hk, hk.2⟩ : _ ∧ k_ ≠ gb852))) (fun _ hk => hk.2) (.bool t853)) (fun _ hk => hk.2) (.slice Ao29 t854.length co29)) (fun _ hk => hk.2) (.int .i64 t857)) (fun _ hk => ⟨hk.1.1, hk.1.2⟩)⟩
         have n2_ : Aside0 (Kd.V (Kd.int .u32) 56 (((w27.setCell ⟨gb852, 0, none⟩ (.bool t853)).setCell ⟨gb852, 1, none⟩ (.slice Ao29 t854.length co29)).setCell ⟨gb852, 2, none⟩ (.int .i64 t857)) w.heap.size (fun k_ => k_ ≠ gb851 ∧ k_ ≠ gb852) (.slice Ao29 t854.length co29) t854) := ⟨by (with_reducible repeat (first | apply Kd.V_alloc | apply Kd.V_drewN | apply Kd.V_drew)); exact Kd.V_mono (Kd.V_far (p := ⟨gb852, 2, none⟩) (Kd.V_far (p := ⟨gb852, 1, none⟩) (Kd.V_far (p := ⟨gb852, 0, none⟩) (Kd.V_mono HO856.out (fun k_ hk => (⟨hk, hk.2⟩ : _ ∧ k_ ≠ gb852))) (fun _ hk => hk.2) (.bool t853)) (fun _ hk => hk.2) (.slice Ao29 t854.length co29)) (fun _ hk => hk.2) (.int .i64 t857)) (fun _ hk => ⟨hk.1.1, hk.1.2⟩)⟩
         have n3_ : Aside0 ((((w27.setCell ⟨gb852, 0, none⟩ (.bool t853)).setCell ⟨gb852, 1, none⟩ (.slice Ao29 t854.length co29)).setCell ⟨gb852, 2, none⟩ (.int .i64 t857)).heap[gb851]? = some (.cells #[.bool t846, .slice Ao11 t847.length co11, .int .i64 t850] 26 (0, 0))) := ⟨by (with_reducible repeat (first | refine blk_drewN ?_ _ | refine blk_drew ?_ | refine blk_alloc ?_ _)); refine blk_far ?_ NB851_852.out _; (with_reducible repeat (first | refine blk_drewN ?_ _ | refine blk_drew ?_ | refine blk_alloc ?_ _)); refine blk_far ?_ NB851_852.out _; (with_reducible repeat (first | refine blk_drewN ?_ _ | refine blk_drew ?_ | refine blk_alloc ?_ _)); refine blk_far ?_ NB851_852.out _; (with_reducible repeat (first | refine blk_drewN ?_ _ | refine blk_drew ?_ | refine blk_alloc ?_ _)); exact BK851.out⟩
         have n4_ : Aside0 ((((w27.setCell ⟨gb852, 0, none⟩ (.bool t853)).setCell ⟨gb852, 1, none⟩ (.slice Ao29 t854.length co29)).setCell ⟨gb852, 2, none⟩ (.int .i64 t857)).heap[gb852]? = some (.cells #[.bool t853, .slice Ao29 t854.length co29, .int .i64 t857] 26 (0, 0))) := ⟨by (with_reducible repeat (first | refine blk_drewN ?_ _ | refine blk_drew ?_ | refine blk_alloc ?_ _)); refine blk_put (cs := #[.bool t853, .slice Ao29 t854.length co29, .int .i64 x853002_2]) ?_ 2 _ rfl; (with_reducible repeat (first | refine blk_drewN ?_ _ | refine blk_drew ?_ | refine blk_alloc ?_ _)); refine blk_put (cs := #[.bool t853, .slice Ao26 x853001_2.length co26, .int .i64 x853002_2]) ?_ 1 _ rfl; (with_reducible repeat (first | refine blk_drewN ?_ _ | refine blk_drew ?_ | refine blk_alloc ?_ _)); refine blk_put (cs := #[.bool x853000_2, .slice Ao26 x853001_2.length co26, .int .i64 x853002_2]) ?_ 0 _ rfl; (with_reducible repeat (first | refine blk_drewN ?_ _ | refine blk_drew ?_ | refine blk_alloc ?_ _)); exact BK852.out⟩
         have n5_ : Aside0 (Below w.heap.size w (((w27.setCell ⟨gb852, 0, none⟩ (.bool t853)).setCell ⟨gb852, 1, none⟩ (.slice Ao29 t854.length co29)).setCell ⟨gb852, 2, none⟩ (.int .i64 t857))) := ⟨bes⟩
         (try clear HO_852001)
         (try clear HO_853001)
         (try clear HO856)
         (try clear BK851)
         (try clear BK852)
         (try clear HB)
         generalize (((w27.setCell ⟨gb852, 0, none⟩ (.bool t853)).setCell ⟨gb852, 1, none⟩ (.slice Ao29 t854.length co29)).setCell ⟨gb852, 2, none⟩ (.int .i64 t857)) = w30 at n0_ n1_ n2_ n3_ n4_ n5_ ⊢
         have HO_852001 := n0_
         have HO_853001 := n1_
         have HO856 := n2_
         have BK851 := n3_
         have BK852 := n4_
         have HB := n5_
         clear n0_ n1_ n2_ n3_ n4_ n5_
         have n0_ := Aside0.mk (Kd.V_drew HO_852001.out)
         have n1_ := Aside0.mk (Kd.V_drew HO_853001.out)
         have n2_ := Aside0.mk (Kd.V_drew HO856.out)
         have n3_ := Aside0.mk (blk_drew BK851.out)
         have n4_ := Aside0.mk (blk_drew BK852.out)
         have n5_ := Aside0.mk (below_drew1 HB.out)
         clear HO_852001
         clear HO_853001
         clear HO856
         clear BK851
         clear BK852
         clear HB
         have HO_852001 := n0_
         have HO_853001 := n1_
         have HO856 := n2_
         have BK851 := n3_
         have BK852 := n4_
         have HB := n5_
         clear n0_ n1_ n2_ n3_ n4_ n5_
         refine start_ (n := 4) (S := fun w' => w'.cell? ⟨gb852, 0, none⟩ = some (.bool t853) ∧ w'.cell? ⟨gb852, 1, none⟩ = some (.slice Ao29 t854.length co29) ∧ w'.cell? ⟨gb852, 2, none⟩ = some (.int .i64 t857)) (ds := [3]) #[false, false, false, false] (by kernel_rfl) rfl rfl ⟨(blk_cell BK852.out 0).trans rfl, (blk_cell BK852.out 1).trans rfl, (blk_cell BK852.out 2).trans rfl⟩ (fun hHeld => ?_)
         generalize w30.drew = w31 at HO_852001 HO_853001 HO856 BK851 BK852 HB hHeld ⊢
         refine take_ (i := 0) (N := some 36) (v := ?_) (a' := ?_) #[true, false, false, false] rfl rfl (by kernel_rfl) (fun _ _ _ h => h) (Or.inl ⟨by rfl, ?_⟩) hHeld ?_ ?_
         rotate_left
         ·
          rintro w' ⟨s0, s1, s2⟩
          go_simp
          with_reducible rfl
         rotate_left
         ·
          simp only [Act.put, sa0, sa1, sa2, i64_w, i32_w]
          rfl
         refine one_ (i := 1) (N := some 37) #[true, true, false, false] rfl rfl (by kernel_rfl) (by decide) (fun K hK => ?_)
         refine goes_ Tryd.func25 (by kernel_rfl) rfl #[.int .i64 1] (by rfl) rfl rfl ga ?_
         with_reducible refine (dyad_Int.calls k2 1 t858 t859 t862 _ ?side1 A22.out).mono ?_
         (case side1 => first | exact hT | exact TabW.drewN hT _ | exact TabW.drew hT | exact TabW.below hT bes)
         rintro e w32 ⟨v860, rfl, ho0, hb⟩
         refine ⟨_, rfl, ?_⟩
         have n0_ := Aside0.mk (Kd.V_below (kv HO_852001) hb)
         have n1_ := Aside0.mk (Kd.V_below (kv HO_853001) hb)
         have n2_ := Aside0.mk (Kd.V_below (kv HO856) hb)
         have n3_ := Aside0.mk (Kd.V_lower (Kd.V_mono (ok' := fun k_ => k_ ≠ gb851 ∧ k_ ≠ gb852) ho0 (fun k_ hk_ => ⟨(Kd.freshB (g := gb851) (o := .cells #[.bool t846, .slice Ao11 t847.length co11, .int .i64 t850] 26 (0, 0)) (kb BK851) k_ hk_), (Kd.freshB (g := gb852) (o := .cells #[.bool t853, .slice Ao29 t854.length co29, .int .i64 t857] 26 (0, 0)) (kb BK852) k_ hk_)⟩)) (below_size bes))
         have n4_ := Aside0.mk (blk_below (g := gb851) (o := .cells #[.bool t846, .slice Ao11 t847.length co11, .int .i64 t850] 26 (0, 0)) (kb BK851) hb)
         have n5_ := Aside0.mk (blk_below (g := gb852) (o := .cells #[.bool t853, .slice Ao29 t854.length co29, .int .i64 t857] 26 (0, 0)) (kb BK852) hb)
         have n6_ := Aside0.mk (below_step bes hb)
         clear HO_852001
         clear HO_853001
         clear HO856
         clear BK851
         clear BK852
         clear HB
         have HO_852001 := n0_
         have HO_853001 := n1_
         have HO856 := n2_
         have HO861 := n3_
         have BK851 := n4_
         have BK852 := n5_
         have HB := n6_
         clear n0_ n1_ n2_ n3_ n4_ n5_ n6_
         (try clear hb)
         (try clear hb2)
         (try clear hk)
         (try clear hi)
         (try clear ho0)
         obtain ⟨Ao33, co33, eo33⟩ := Kd.V_slice HO861.out
         (first | subst eo33 | (injection eo33 with f1_ f2_ f3_; have f4_ := f1_.symm; have f5_ := f3_.symm; clear f1_ f2_ f3_; subst f4_; subst f5_))
         refine hK.out _ _ ⟨(blk_cell BK852.out 0).trans rfl, (blk_cell BK852.out 1).trans rfl, (blk_cell BK852.out 2).trans rfl⟩ (fun hHeld => ?_)
         clear hK K
         refine norm_ (a' := ?_) ?_ ?_
         rotate_left
         ·
          show Act.put _ (some 37) _ = _
          simp only [Act.put, sa0, sa1, sa2, i64_w, i32_w]
          rfl
         refine one_ (i := 2) (N := some 38) #[true, true, true, false] rfl rfl (by kernel_rfl) (by decide) (fun K hK => ?_)
         refine goes_ Tryd.func11 (by kernel_rfl) rfl #[.agg #[.bool t853, .slice Ao29 t854.length co29, .int .i64 t857], .agg #[.bool t858, .slice Ao33 t859.length co33, .int .i64 t862]] (by rfl) rfl rfl ga ?_
         with_reducible refine (dyad_Num_Add.calls k2 t853 (fun k_ => (k_ ≠ gb851 ∧ k_ ≠ gb852)) _ _ t854 t857 t858 (fun k_ => (k_ ≠ gb851 ∧ k_ ≠ gb852)) _ _ t859 t862 t863 t864 t867 _ ?side1 ?side2 ?side3 A23.out).mono ?_
         (case side1 => exact HO856.out)
         (case side2 => exact HO861.out)
         (case side3 => first | exact hT | exact TabW.drewN hT _ | exact TabW.drew hT | exact TabW.below hT bes)
         rintro e w34 ⟨v865, rfl, ho0, hb⟩
         refine ⟨_, rfl, ?_⟩
         have n0_ := Aside0.mk (Kd.V_below (kv HO_852001) hb)
         have n1_ := Aside0.mk (Kd.V_below (kv HO_853001) hb)
         have n2_ := Aside0.mk (Kd.V_below (kv HO856) hb)
         have n3_ := Aside0.mk (Kd.V_below (kv HO861) hb)
         have n4_ := Aside0.mk (Kd.V_lower (Kd.V_mono (ok' := fun k_ => k_ ≠ gb851 ∧ k_ ≠ gb852) ho0 (fun k_ hk_ => ⟨Or.elim hk_ (fun hs_ => Or.elim hs_ (fun hs_ => hs_.1) (fun hs_ => hs_.1)) (fun hn_ => (Kd.freshB (g := gb851) (o := .cells #[.bool t846, .slice Ao11 t847.length co11, .int .i64 t850] 26 (0, 0)) (kb BK851) k_ hn_)), Or.elim hk_ (fun hs_ => Or.elim hs_ (fun hs_ => hs_.2) (fun hs_ => hs_.2)) (fun hn_ => (Kd.freshB (g := gb852) (o := .cells #[.bool t853, .slice Ao29 t854.length co29, .int .i64 t857] 26 (0, 0)) (kb BK852) k_ hn_))⟩)) (below_size bes))
         have n5_ := Aside0.mk (blk_below (g := gb851) (o := .cells #[.bool t846, .slice Ao11 t847.length co11, .int .i64 t850] 26 (0, 0)) (kb BK851) hb)
         have n6_ := Aside0.mk (blk_below (g := gb852) (o := .cells #[.bool t853, .slice Ao29 t854.length co29, .int .i64 t857] 26 (0, 0)) (kb BK852) hb)
         have n7_ := Aside0.mk (below_step bes hb)
         clear HO_852001
         clear HO_853001
         clear HO856
         clear HO861
         clear BK851
         clear BK852
         clear HB
         have HO_852001 := n0_
         have HO_853001 := n1_
         have HO856 := n2_
         have HO861 := n3_
         have HO866 := n4_
         have BK851 := n5_
         have BK852 := n6_
         have HB := n7_
         clear n0_ n1_ n2_ n3_ n4_ n5_ n6_ n7_
         (try clear hb)
         (try clear hb2)
         (try clear hk)
         (try clear hi)
         (try clear ho0)
         obtain ⟨Ao36, co36, eo36⟩ := Kd.V_slice HO866.out
         (first | subst eo36 | (injection eo36 with f1_ f2_ f3_; have f4_ := f1_.symm; have f5_ := f3_.symm; clear f1_ f2_ f3_; subst f4_; subst f5_))
         refine hK.out _ _ ⟨(blk_cell BK852.out 0).trans rfl, (blk_cell BK852.out 1).trans rfl, (blk_cell BK852.out 2).trans rfl⟩ (fun hHeld => ?_)
         clear hK K
         refine norm_ (a' := ?_) ?_ ?_
         rotate_left
         ·
          show Act.put _ (some 38) _ = _
          simp only [Act.put, sa0, sa1, sa2, i64_w, i32_w]
          rfl
         refine last_ (i := 3) (N := none) #[true, true, true, true] rfl rfl (by kernel_rfl) (by decide) (fun K hK => ?_)
         have hs35 : w34.cell? ⟨gb852, 0, none⟩ = some (.bool t853) := (blk_cell BK852.out 0).trans rfl
         have hfs35 := blk_frozen BK852.out 0
         have hns35_0 := NB851_852.out
         have hms35_0 := NB852_851.out
         have hs37 : w34.cell? ⟨gb852, 1, none⟩ = some (.slice Ao29 t854.length co29) := (blk_cell BK852.out 1).trans rfl
         have hfs37 := blk_frozen BK852.out 1
         have hns37_0 := NB851_852.out
         have hms37_0 := NB852_851.out
         have hs38 : w34.cell? ⟨gb852, 2, none⟩ = some (.int .i64 t857) := (blk_cell BK852.out 2).trans rfl
         have hfs38 := blk_frozen BK852.out 2
         have hns38_0 := NB851_852.out
         have hms38_0 := NB852_851.out
         refine skip_ (w1 := ?_) (by rfl) rfl ?_ ?_
         rotate_left
         ·
          go_simp
          rfl
         refine hK.out _ _ ?_
         clear hK K
         refine done_ (by kernel_rfl) ?_
         try go_wp2
         go_roundg k2
         case measure => have := HJ5.out; have := HK2.out; omega
         case rel => exact ⟨(wrap64 (x8_2 - 1)), (t863), (t864), (t867), (.slice Ao36 t864.length co36), (by first | rfl | (simp; done) | (simp [*]; done)), H', ⟨by have := HJ5.out; have := HK2.out; omega⟩, ⟨by (with_reducible repeat (first | apply Kd.V_alloc | apply Kd.V_drewN | apply Kd.V_drew)); exact Kd.V_mono (Kd.V_far (p := ⟨gb852, 2, none⟩) (Kd.V_far (p := ⟨gb852, 1, none⟩) (Kd.V_far (p := ⟨gb852, 0, none⟩) (Kd.V_mono HO_852001.out (fun k_ hk => (⟨hk, hk.2⟩ : _ ∧ k_ ≠ gb852))) (fun _ hk => hk.2) (.bool t863)) (fun _ hk => hk.2) (.slice Ao36 t864.length co36)) (fun _ hk => hk.2) (.int .i64 t867)) (fun _ hk => ⟨hk.1.1, hk.1.2⟩)⟩, ⟨by (with_reducible repeat (first | apply Kd.V_alloc | apply Kd.V_drewN | apply Kd.V_drew)); exact Kd.V_mono (Kd.V_far (p := ⟨gb852, 2, none⟩) (Kd.V_far (p := ⟨gb852, 1, none⟩) (Kd.V_far (p := ⟨gb852, 0, none⟩) (Kd.V_mono HO866.out (fun k_ hk => (⟨hk, hk.2⟩ : _ ∧ k_ ≠ gb852))) (fun _ hk => hk.2) (.bool t863)) (fun _ hk => hk.2) (.slice Ao36 t864.length co36)) (fun _ hk => hk.2) (.int .i64 t867)) (fun _ hk => ⟨hk.1.1, hk.1.2⟩)⟩, ⟨by (with_reducible repeat (first | refine blk_drewN ?_ _ | refine blk_drew ?_ | refine blk_alloc ?_ _)); refine blk_far ?_ NB851_852.out _; (with_reducible repeat (first | refine blk_drewN ?_ _ | refine blk_drew ?_ | refine blk_alloc ?_ _)); refine blk_far ?_ NB851_852.out _; (with_reducible repeat (first | refine blk_drewN ?_ _ | refine blk_drew ?_ | refine blk_alloc ?_ _)); refine blk_far ?_ NB851_852.out _; (with_reducible repeat (first | refine blk_drewN ?_ _ | refine blk_drew ?_ | refine blk_alloc ?_ _)); exact BK851.out⟩, ⟨by (with_reducible repeat (first | refine blk_drewN ?_ _ | refine blk_drew ?_ | refine blk_alloc ?_ _)); refine blk_put (cs := #[.bool t863, .slice Ao36 t864.length co36, .int .i64 t857]) ?_ 2 _ rfl; (with_reducible repeat (first | refine blk_drewN ?_ _ | refine blk_drew ?_ | refine blk_alloc ?_ _)); refine blk_put (cs := #[.bool t863, .slice Ao29 t854.length co29, .int .i64 t857]) ?_ 1 _ rfl; (with_reducible repeat (first | refine blk_drewN ?_ _ | refine blk_drew ?_ | refine blk_alloc ?_ _)); refine blk_put (cs := #[.bool t853, .slice Ao29 t854.length co29, .int .i64 t857]) ?_ 0 _ rfl; (with_reducible repeat (first | refine blk_drewN ?_ _ | refine blk_drew ?_ | refine blk_alloc ?_ _)); exact BK852.out⟩, ⟨bes⟩⟩
        ·
         rw [if_neg c21] at H
         have c21b0 : ((Go.bits .and .u64 (ji20) 1) == 1) = false := beq_eq_false_iff_ne.mpr c21
         have c21b1 : ((Go.bits .and .u64 (ji20) 1) != 1) = true := bne_iff_ne.mpr c21
         have H' := Aside0.mk H
         clear H
         have hnb39 := NB852_851.out
         have hnc39 := NB851_852.out
         have hcz40_0 : wr.cell? ⟨gb852, 0, none⟩ = some (.bool x853000_2) := (blk_cell BK852.out 0).trans rfl
         have hcz40_1 : wr.cell? ⟨gb852, 1, none⟩ = some (u853001) := (blk_cell BK852.out 1).trans rfl
         have hcz40_2 : wr.cell? ⟨gb852, 2, none⟩ = some (.int .i64 x853002_2) := (blk_cell BK852.out 2).trans rfl
         have hfz40_0 := blk_frozen BK852.out 0
         have hfz40_1 := blk_frozen BK852.out 1
         have hfz40_2 := blk_frozen BK852.out 2
         obtain ⟨Ao41, co41, eo41⟩ := Kd.V_slice HO_853001.out
         subst eo41
         go_wp2_with (first | ((with_reducible refine gate_callee (f := 11) rfl ?_); refine goesL_ (some 29) rfl rfl Tryd.func11 (by kernel_rfl) rfl #[.agg #[.bool x853000_2, .slice Ao41 x853001_2.length co41, .int .i64 x853002_2], .agg #[.bool x853000_2, .slice Ao41 x853001_2.length co41, .int .i64 x853002_2]] rfl ga ?_; (with_reducible refine (dyad_Num_Add.calls k2 x853000_2 (fun k_ => (k_ ≠ gb851 ∧ k_ ≠ gb852)) _ _ x853001_2 x853002_2 x853000_2 (fun k_ => (k_ ≠ gb851 ∧ k_ ≠ gb852)) _ _ x853001_2 x853002_2 t853 t854 t857 _ ?side1 ?side2 ?side3 A17.out).mono ?_); (case side1 => exact HO_853001.out); (case side2 => exact HO_853001.out); (case side3 => first | exact hT | exact TabW.drewN hT _ | exact TabW.drew hT | exact TabW.below hT bes); rintro e w42 ⟨v855, rfl, ho0, hb⟩; refine ⟨_, rfl, ?_⟩; have n0_ := Aside0.mk (Kd.V_below (kv HO_852001) hb); have n1_ := Aside0.mk (Kd.V_below (kv HO_853001) hb); have n2_ := Aside0.mk (Kd.V_lower (Kd.V_mono (ok' := fun k_ => k_ ≠ gb851 ∧ k_ ≠ gb852) ho0 (fun k_ hk_ => ⟨Or.elim hk_ (fun hs_ => Or.elim hs_ (fun hs_ => hs_.1) (fun hs_ => hs_.1)) (fun hn_ => (Kd.freshB (g := gb851) (o := .cells #[.bool t846, .slice Ao11 t847.length co11, .int .i64 t850] 26 (0, 0)) (kb BK851) k_ hn_)), Or.elim hk_ (fun hs_ => Or.elim hs_ (fun hs_ => hs_.2) (fun hs_ => hs_.2)) (fun hn_ => (Kd.freshB (g := gb852) (o := .cells #[.bool x853000_2, .slice Ao41 x853001_2.length co41, .int .i64 x853002_2] 26 (0, 0)) (kb BK852) k_ hn_))⟩)) (below_size bes)); have n3_ := Aside0.mk (blk_below (g := gb851) (o := .cells #[.bool t846, .slice Ao11 t847.length co11, .int .i64 t850] 26 (0, 0)) (kb BK851) hb); have n4_ := Aside0.mk (blk_below (g := gb852) (o := .cells #[.bool x853000_2, .slice Ao41 x853001_2.length co41, .int .i64 x853002_2] 26 (0, 0)) (kb BK852) hb); have n5_ := Aside0.mk (below_step bes hb); clear HO_852001; clear HO_853001; clear BK851; clear BK852; clear HB; have HO_852001 := n0_; have HO_853001 := n1_; have HO856 := n2_; have BK851 := n3_; have BK852 := n4_; have HB := n5_; clear n0_ n1_ n2_ n3_ n4_ n5_; (try clear hb); (try clear ho0); have hcz43_0 : w42.cell? ⟨gb852, 0, none⟩ = some (.bool x853000_2) := (blk_cell BK852.out 0).trans rfl; have hcz43_1 : w42.cell? ⟨gb852, 1, none⟩ = some (.slice Ao41 x853001_2.length co41) := (blk_cell BK852.out 1).trans rfl; have hcz43_2 : w42.cell? ⟨gb852, 2, none⟩ = some (.int .i64 x853002_2) := (blk_cell BK852.out 2).trans rfl; have hfz43_0 := blk_frozen BK852.out 0; have hfz43_1 := blk_frozen BK852.out 1; have hfz43_2 := blk_frozen BK852.out 2; obtain ⟨Ao44, co44, eo44⟩ := Kd.V_slice HO856.out; subst eo44))
         go_roundg k2
         case measure => have := HJ5.out; have := HK2.out; omega
         case rel => exact ⟨(wrap64 (x8_2 - 1)), (t853), (t854), (t857), (.slice Ao44 t854.length co44), (by first | rfl | (simp; done) | (simp [*]; done)), H', ⟨by have := HJ5.out; have := HK2.out; omega⟩, ⟨by (with_reducible repeat (first | apply Kd.V_alloc | apply Kd.V_drewN | apply Kd.V_drew)); exact Kd.V_mono (Kd.V_far (p := ⟨gb852, 2, none⟩) (Kd.V_far (p := ⟨gb852, 1, none⟩) (Kd.V_far (p := ⟨gb852, 0, none⟩) (Kd.V_mono HO_852001.out (fun k_ hk => (⟨hk, hk.2⟩ : _ ∧ k_ ≠ gb852))) (fun _ hk => hk.2) (.bool t853)) (fun _ hk => hk.2) (.slice Ao44 t854.length co44)) (fun _ hk => hk.2) (.int .i64 t857)) (fun _ hk => ⟨hk.1.1, hk.1.2⟩)⟩, ⟨by (with_reducible repeat (first | apply Kd.V_alloc | apply Kd.V_drewN | apply Kd.V_drew)); exact Kd.V_mono (Kd.V_far (p := ⟨gb852, 2, none⟩) (Kd.V_far (p := ⟨gb852, 1, none⟩) (Kd.V_far (p := ⟨gb852, 0, none⟩) (Kd.V_mono HO856.out (fun k_ hk => (⟨hk, hk.2⟩ : _ ∧ k_ ≠ gb852))) (fun _ hk => hk.2) (.bool t853)) (fun _ hk => hk.2) (.slice Ao44 t854.length co44)) (fun _ hk => hk.2) (.int .i64 t857)) (fun _ hk => ⟨hk.1.1, hk.1.2⟩)⟩, ⟨by (with_reducible repeat (first | refine blk_drewN ?_ _ | refine blk_drew ?_ | refine blk_alloc ?_ _)); refine blk_far ?_ NB851_852.out _; (with_reducible repeat (first | refine blk_drewN ?_ _ | refine blk_drew ?_ | refine blk_alloc ?_ _)); refine blk_far ?_ NB851_852.out _; (with_reducible repeat (first | refine blk_drewN ?_ _ | refine blk_drew ?_ | refine blk_alloc ?_ _)); refine blk_far ?_ NB851_852.out _; (with_reducible repeat (first | refine blk_drewN ?_ _ | refine blk_drew ?_ | refine blk_alloc ?_ _)); exact BK851.out⟩, ⟨by (with_reducible repeat (first | refine blk_drewN ?_ _ | refine blk_drew ?_ | refine blk_alloc ?_ _)); refine blk_put (cs := #[.bool t853, .slice Ao44 t854.length co44, .int .i64 x853002_2]) ?_ 2 _ rfl; (with_reducible repeat (first | refine blk_drewN ?_ _ | refine blk_drew ?_ | refine blk_alloc ?_ _)); refine blk_put (cs := #[.bool t853, .slice Ao41 x853001_2.length co41, .int .i64 x853002_2]) ?_ 1 _ rfl; (with_reducible repeat (first | refine blk_drewN ?_ _ | refine blk_drew ?_ | refine blk_alloc ?_ _)); refine blk_put (cs := #[.bool x853000_2, .slice Ao41 x853001_2.length co41, .int .i64 x853002_2]) ?_ 0 _ rfl; (with_reducible repeat (first | refine blk_drewN ?_ _ | refine blk_drew ?_ | refine blk_alloc ?_ _)); exact BK852.out⟩, ⟨bes⟩⟩
       ·
        rw [if_neg c19] at H
        exact absurd H (by simp)
      ·
       rw [if_neg c16] at H
       have c16b0 : decide (0 ≤ x8_2) = false := decide_eq_false c16
       clear c16
       have HC45 := Aside0.mk H
       clear H
       go_upto_if 40 with (fail)
       go_cut [] (fun wc => ∃ (kq : Nat) (x853000_44 : Bool) (x853001_44 : List Int) (x853002_44 : Int) (u853001 : Value), Aside0 (gimballaw07_DyadInts.j2 kq a1 t846 t847 t850 x853000_44 x853001_44 x853002_44 = some r) ∧ Aside0 (kq ≤ k2) ∧ Aside0 (Kd.V (Kd.int .u32) 56 wc w.heap.size (fun k_ => k_ ≠ gb851 ∧ k_ ≠ gb852) (.slice Ao11 t847.length co11) t847) ∧ Aside0 (Kd.V (Kd.int .u32) 56 wc w.heap.size (fun k_ => k_ ≠ gb851 ∧ k_ ≠ gb852) u853001 x853001_44) ∧ Aside0 (wc.heap[gb851]? = some (.cells #[.bool t846, (.slice Ao11 t847.length co11), .int .i64 t850] 26 (0, 0))) ∧ Aside0 (wc.heap[gb852]? = some (.cells #[.bool x853000_44, u853001, .int .i64 x853002_44] 26 (0, 0))) ∧ Aside0 (Below w.heap.size w wc))
       case first =>
        have H := HC45.out
        clear HC45
        by_cases c46 : a0 < 0
        ·
         rw [if_pos c46] at H
         have c46b0 : decide (a0 < 0) = true := decide_eq_true c46
         clear c46
         (first | rw [c46b0] | (simp only [i64_w, i32_w]; rw [c46b0]) | skip)
         obtain ⟨⟨t868, t869, t872⟩, A470, H⟩ := Option.bind_eq_some_iff.mp H
         (try dsimp -simprocs only at H)
         have A47 := Aside0.mk A470
         clear A470
         have H' := Aside0.mk H
         clear H
         have hnb48 := NB852_851.out
         have hnc48 := NB851_852.out
         have hcz49_0 : wr.cell? ⟨gb852, 0, none⟩ = some (.bool x853000_2) := (blk_cell BK852.out 0).trans rfl
         have hcz49_1 : wr.cell? ⟨gb852, 1, none⟩ = some (u853001) := (blk_cell BK852.out 1).trans rfl
         have hcz49_2 : wr.cell? ⟨gb852, 2, none⟩ = some (.int .i64 x853002_2) := (blk_cell BK852.out 2).trans rfl
         have hfz49_0 := blk_frozen BK852.out 0
         have hfz49_1 := blk_frozen BK852.out 1
         have hfz49_2 := blk_frozen BK852.out 2
         obtain ⟨Ao50, co50, eo50⟩ := Kd.V_slice HO_853001.out
         subst eo50
         go_wp2_with (first | ((with_reducible refine gate_callee (f := 26) rfl ?_); refine goesL_ (some 42) rfl rfl Tryd.func26 (by kernel_rfl) rfl #[.agg #[.bool x853000_2, .slice Ao50 x853001_2.length co50, .int .i64 x853002_2]] rfl ga ?_; (with_reducible refine (dyad_Num_Neg.calls x853000_2 (fun k_ => (k_ ≠ gb851 ∧ k_ ≠ gb852)) _ _ x853001_2 x853002_2 t868 t869 t872 _ ?side1 A47.out).mono ?_); (case side1 => exact HO_853001.out); rintro e w51 ⟨v870, rfl, ho0, hb⟩; refine ⟨_, rfl, ?_⟩; have n0_ := Aside0.mk (Kd.V_below (kv HO_852001) hb); have n1_ := Aside0.mk (Kd.V_below (kv HO_853001) hb); have n2_ := Aside0.mk (Kd.V_lower (Kd.V_mono (ok' := fun k_ => k_ ≠ gb851 ∧ k_ ≠ gb852) ho0 (fun k_ hk_ => ⟨Or.elim hk_ (fun hs_ => hs_.1) (fun hn_ => (Kd.freshB (g := gb851) (o := .cells #[.bool t846, .slice Ao11 t847.length co11, .int .i64 t850] 26 (0, 0)) (kb BK851) k_ hn_)), Or.elim hk_ (fun hs_ => hs_.2) (fun hn_ => (Kd.freshB (g := gb852) (o := .cells #[.bool x853000_2, .slice Ao50 x853001_2.length co50, .int .i64 x853002_2] 26 (0, 0)) (kb BK852) k_ hn_))⟩)) (below_size bes)); have n3_ := Aside0.mk (blk_below (g := gb851) (o := .cells #[.bool t846, .slice Ao11 t847.length co11, .int .i64 t850] 26 (0, 0)) (kb BK851) hb); have n4_ := Aside0.mk (blk_below (g := gb852) (o := .cells #[.bool x853000_2, .slice Ao50 x853001_2.length co50, .int .i64 x853002_2] 26 (0, 0)) (kb BK852) hb); have n5_ := Aside0.mk (below_step bes hb); clear HO_852001; clear HO_853001; clear BK851; clear BK852; clear HB; have HO_852001 := n0_; have HO_853001 := n1_; have HO871 := n2_; have BK851 := n3_; have BK852 := n4_; have HB := n5_; clear n0_ n1_ n2_ n3_ n4_ n5_; (try clear hb); (try clear ho0); have hcz52_0 : w51.cell? ⟨gb852, 0, none⟩ = some (.bool x853000_2) := (blk_cell BK852.out 0).trans rfl; have hcz52_1 : w51.cell? ⟨gb852, 1, none⟩ = some (.slice Ao50 x853001_2.length co50) := (blk_cell BK852.out 1).trans rfl; have hcz52_2 : w51.cell? ⟨gb852, 2, none⟩ = some (.int .i64 x853002_2) := (blk_cell BK852.out 2).trans rfl; have hfz52_0 := blk_frozen BK852.out 0; have hfz52_1 := blk_frozen BK852.out 1; have hfz52_2 := blk_frozen BK852.out 2; obtain ⟨Ao53, co53, eo53⟩ := Kd.V_slice HO871.out; subst eo53))
         go_meet
         case rel => exact ⟨_, (t868), (t869), (t872), (.slice Ao53 t869.length co53), H', ⟨by have := HJ5.out; have := HK2.out; first | omega | exact Nat.le_refl _⟩, ⟨by (with_reducible repeat (first | apply Kd.V_alloc | apply Kd.V_drewN | apply Kd.V_drew)); exact Kd.V_mono (Kd.V_far (p := ⟨gb852, 2, none⟩) (Kd.V_far (p := ⟨gb852, 1, none⟩) (Kd.V_far (p := ⟨gb852, 0, none⟩) (Kd.V_mono HO_852001.out (fun k_ hk => (⟨hk, hk.2⟩ : _ ∧ k_ ≠ gb852))) (fun _ hk => hk.2) (.bool t868)) (fun _ hk => hk.2) (.slice Ao53 t869.length co53)) (fun _ hk => hk.2) (.int .i64 t872)) (fun _ hk => ⟨hk.1.1, hk.1.2⟩)⟩, ⟨by (with_reducible repeat (first | apply Kd.V_alloc | apply Kd.V_drewN | apply Kd.V_drew)); exact Kd.V_mono (Kd.V_far (p := ⟨gb852, 2, none⟩) (Kd.V_far (p := ⟨gb852, 1, none⟩) (Kd.V_far (p := ⟨gb852, 0, none⟩) (Kd.V_mono HO871.out (fun k_ hk => (⟨hk, hk.2⟩ : _ ∧ k_ ≠ gb852))) (fun _ hk => hk.2) (.bool t868)) (fun _ hk => hk.2) (.slice Ao53 t869.length co53)) (fun _ hk => hk.2) (.int .i64 t872)) (fun _ hk => ⟨hk.1.1, hk.1.2⟩)⟩, ⟨by (with_reducible repeat (first | refine blk_drewN ?_ _ | refine blk_drew ?_ | refine blk_alloc ?_ _)); refine blk_far ?_ NB851_852.out _; (with_reducible repeat (first | refine blk_drewN ?_ _ | refine blk_drew ?_ | refine blk_alloc ?_ _)); refine blk_far ?_ NB851_852.out _; (with_reducible repeat (first | refine blk_drewN ?_ _ | refine blk_drew ?_ | refine blk_alloc ?_ _)); refine blk_far ?_ NB851_852.out _; (with_reducible repeat (first | refine blk_drewN ?_ _ | refine blk_drew ?_ | refine blk_alloc ?_ _)); exact BK851.out⟩, ⟨by (with_reducible repeat (first | refine blk_drewN ?_ _ | refine blk_drew ?_ | refine blk_alloc ?_ _)); refine blk_put (cs := #[.bool t868, .slice Ao53 t869.length co53, .int .i64 x853002_2]) ?_ 2 _ rfl; (with_reducible repeat (first | refine blk_drewN ?_ _ | refine blk_drew ?_ | refine blk_alloc ?_ _)); refine blk_put (cs := #[.bool t868, .slice Ao50 x853001_2.length co50, .int .i64 x853002_2]) ?_ 1 _ rfl; (with_reducible repeat (first | refine blk_drewN ?_ _ | refine blk_drew ?_ | refine blk_alloc ?_ _)); refine blk_put (cs := #[.bool x853000_2, .slice Ao50 x853001_2.length co50, .int .i64 x853002_2]) ?_ 0 _ rfl; (with_reducible repeat (first | refine blk_drewN ?_ _ | refine blk_drew ?_ | refine blk_alloc ?_ _)); exact BK852.out⟩, ⟨bes⟩⟩
        ·
         rw [if_neg c46] at H
         have c46b0 : decide (a0 < 0) = false := decide_eq_false c46
         clear c46
         (first | rw [c46b0] | (simp only [i64_w, i32_w]; rw [c46b0]) | skip)
         have H' := Aside0.mk H
         clear H
         go_wp2
         go_meet
         case rel => exact ⟨_, (x853000_2), (x853001_2), (x853002_2), (u853001), H', ⟨by have := HJ5.out; have := HK2.out; first | omega | exact Nat.le_refl _⟩, ⟨kv HO_852001⟩, ⟨kv HO_853001⟩, ⟨kb BK851⟩, ⟨kb BK852⟩, ⟨bes⟩⟩
       case rest =>
        clear HC45
        try clear c1
        try clear c2
        try clear p2
        try clear c3
        try clear c4
        try clear c5
        try clear p6
        try clear c7
        try clear c11
        try clear c12
        try clear c12b0
        try clear c14
        try clear c16
        try clear c16b0
        try clear c19
        try clear c19b0
        try clear c19b1
        try clear c21
        try clear c21b0
        try clear c21b1
        try clear c24
        try clear c25
        try clear c26
        try clear c39
        try clear c46
        try clear c46b0
        try clear c48
        try clear hcz10_0
        try clear hcz10_1
        try clear hcz10_2
        try clear hcz15_0
        try clear hcz15_1
        try clear hcz15_2
        try clear hcz25_0
        try clear hcz25_1
        try clear hcz25_2
        try clear hcz28_0
        try clear hcz28_1
        try clear hcz28_2
        try clear hcz40_0
        try clear hcz40_1
        try clear hcz40_2
        try clear hcz43_0
        try clear hcz43_1
        try clear hcz43_2
        try clear hcz49_0
        try clear hcz49_1
        try clear hcz49_2
        try clear hcz52_0
        try clear hcz52_1
        try clear hcz52_2
        try clear hfz10_0
        try clear hfz10_1
        try clear hfz10_2
        try clear hfz15_0
        try clear hfz15_1
        try clear hfz15_2
        try clear hfz25_0
        try clear hfz25_1
        try clear hfz25_2
        try clear hfz28_0
        try clear hfz28_1
        try clear hfz28_2
        try clear hfz40_0
        try clear hfz40_1
        try clear hfz40_2
        try clear hfz43_0
        try clear hfz43_1
        try clear hfz43_2
        try clear hfz49_0
        try clear hfz49_1
        try clear hfz49_2
        try clear hfz52_0
        try clear hfz52_1
        try clear hfz52_2
        try clear p2
        obtain ⟨kq, x853000_44, x853001_44, x853002_44, u853001, HA, HJ44, HO_852001, HO_853001, BK851, BK852, HB⟩ := hcut
        cases kq with
        | zero => exact absurd HA.out (by simp [gimballaw07_DyadInts.j2])
        | succ kj44 =>
         have H := HA.out
         clear HA
         simp only [gimballaw07_DyadInts.j2] at H
         obtain ⟨⟨t873, t874, t877⟩, A540, H⟩ := Option.bind_eq_some_iff.mp H
         (try dsimp -simprocs only at H)
         have A54 := Aside0.mk A540
         clear A540
         obtain ⟨⟨t878, t879, t882⟩, A550, H⟩ := Option.bind_eq_some_iff.mp H
         (try dsimp -simprocs only at H)
         have A55 := Aside0.mk A550
         clear A550
         obtain ⟨⟨t883, t884, t887⟩, A560, H⟩ := Option.bind_eq_some_iff.mp H
         (try dsimp -simprocs only at H)
         have A56 := Aside0.mk A560
         clear A560
         obtain ⟨⟨t889, t890, t893⟩, A570, H⟩ := Option.bind_eq_some_iff.mp H
         (try dsimp -simprocs only at H)
         have A57 := Aside0.mk A570
         clear A570
         have H' := Aside0.mk H
         clear H
         go_wp2_with (first | ((with_reducible refine gate_callee (f := 27) rfl ?_); refine goesL_ (some 46) rfl rfl Tryd.func27 (by kernel_rfl) rfl #[.int .i64 (Go.bits .and .i64 a1 1023)] rfl ga ?_; (with_reducible refine (dyad_Two.calls (Go.bits .and .i64 a1 1023) t873 t874 t877 _ A54.out).mono ?_); rintro e w58 ⟨v875, rfl, ho0, hb⟩; refine ⟨_, rfl, ?_⟩; have n0_ := Aside0.mk (Kd.V_elder' (kv HO_852001) (Kd.R_base ho0) hb); have n1_ := Aside0.mk (Kd.V_elder' (kv HO_853001) (Kd.R_base ho0) hb); have n2_ := Aside0.mk (Kd.R_lower ho0 (below_size bes)); have n3_ := Aside0.mk (blk_below (g := gb851) (o := .cells #[.bool t846, .slice Ao11 t847.length co11, .int .i64 t850] 26 (0, 0)) (kb BK851) hb); have n4_ := Aside0.mk (blk_below (g := gb852) (o := .cells #[.bool x853000_44, u853001, .int .i64 x853002_44] 26 (0, 0)) (kb BK852) hb); have n5_ := Aside0.mk (below_step bes hb); clear HO_852001; clear HO_853001; clear BK851; clear BK852; clear HB; have HO_852001 := n0_; have HO_853001 := n1_; have HO876 := n2_; have BK851 := n3_; have BK852 := n4_; have HB := n5_; clear n0_ n1_ n2_ n3_ n4_ n5_; (try clear hb); (try clear ho0)) | ((with_reducible refine gate_callee (f := 27) rfl ?_); refine goesL_ (some 49) rfl rfl Tryd.func27 (by kernel_rfl) rfl #[.int .i64 (wrap64 (-(Go.bits .and .i64 a1 1023)))] rfl ga ?_; (with_reducible refine (dyad_Two.calls (wrap64 (-(Go.bits .and .i64 a1 1023))) t878 t879 t882 _ A55.out).mono ?_); rintro e w59 ⟨v880, rfl, ho0, hb⟩; refine ⟨_, rfl, ?_⟩; have n0_ := Aside0.mk (Kd.V_elder' (kv HO_852001) (Kd.R_base ho0) hb); have n1_ := Aside0.mk (Kd.V_elder' (kv HO_853001) (Kd.R_base ho0) hb); have n2_ := Aside0.mk (Kd.R_elder' (kr HO876) (Kd.R_base ho0) hb); have n3_ := Aside0.mk (Kd.R_lower (Kd.R_new' ho0 (Kd.R_lt (kr HO876))) (below_size bes)); have n4_ := Aside0.mk (blk_below (g := gb851) (o := .cells #[.bool t846, .slice Ao11 t847.length co11, .int .i64 t850] 26 (0, 0)) (kb BK851) hb); have n5_ := Aside0.mk (blk_below (g := gb852) (o := .cells #[.bool x853000_44, u853001, .int .i64 x853002_44] 26 (0, 0)) (kb BK852) hb); have n6_ := Aside0.mk (below_step bes hb); clear HO_852001; clear HO_853001; clear HO876; clear BK851; clear BK852; clear HB; have HO_852001 := n0_; have HO_853001 := n1_; have HO876 := n2_; have HO881 := n3_; have BK851 := n4_; have BK852 := n5_; have HB := n6_; clear n0_ n1_ n2_ n3_ n4_ n5_ n6_; (try clear hb); (try clear ho0); obtain ⟨Ao60, co60, eo60⟩ := Kd.R_slice HO876.out; subst eo60; obtain ⟨Ao61, co61, eo61⟩ := Kd.R_slice HO881.out; subst eo61) | ((with_reducible refine gate_callee (f := 13) rfl ?_); refine goesL_ (some 50) rfl rfl Tryd.func13 (by kernel_rfl) rfl #[.agg #[.bool t873, .slice Ao60 t874.length co60, .int .i64 t877], .agg #[.bool t878, .slice Ao61 t879.length co61, .int .i64 t882]] rfl ga ?_; (with_reducible refine (dyad_Num_Mul.calls kj44 t873 _ _ t874 t877 t878 _ _ t879 t882 t883 t884 t887 _ ?side1 ?side2 ?side3 ?side4 ?side5 A56.out).mono ?_); (case side1 => exact ks HO876); (case side2 => exact (Kd.R_reads' HO876.out).2.1); (case side3 => exact ks HO881); (case side4 => exact (Kd.R_reads' HO881.out).2.1); (case side5 => first | exact hT | exact TabW.drewN hT _ | exact TabW.drew hT | exact TabW.below hT bes); rintro e w62 ⟨v885, rfl, ho0, hb⟩; refine ⟨_, rfl, ?_⟩; have n0_ := Aside0.mk (Kd.V_below (kv HO_852001) hb); have n1_ := Aside0.mk (Kd.V_below (kv HO_853001) hb); have n2_ := Aside0.mk (Kd.R_below (kr HO876) hb); have n3_ := Aside0.mk (Kd.R_below (kr HO881) hb); have n4_ := Aside0.mk (Kd.V_lower (Kd.V_mono (ok' := fun k_ => some k_ ≠ (.slice Ao60 t874.length co60 : Value).ownBlock ∧ some k_ ≠ (.slice Ao61 t879.length co61 : Value).ownBlock ∧ k_ ≠ gb851 ∧ k_ ≠ gb852) ho0 (fun k_ hk_ => ⟨(Kd.fresh' (Kd.R_lt (kr HO876)) k_ hk_), (Kd.fresh' (Kd.R_lt (kr HO881)) k_ hk_), (Kd.freshB (g := gb851) (o := .cells #[.bool t846, .slice Ao11 t847.length co11, .int .i64 t850] 26 (0, 0)) (kb BK851) k_ hk_), (Kd.freshB (g := gb852) (o := .cells #[.bool x853000_44, u853001, .int .i64 x853002_44] 26 (0, 0)) (kb BK852) k_ hk_)⟩)) (below_size bes)); have n5_ := Aside0.mk (blk_below (g := gb851) (o := .cells #[.bool t846, .slice Ao11 t847.length co11, .int .i64 t850] 26 (0, 0)) (kb BK851) hb); have n6_ := Aside0.mk (blk_below (g := gb852) (o := .cells #[.bool x853000_44, u853001, .int .i64 x853002_44] 26 (0, 0)) (kb BK852) hb); have n7_ := Aside0.mk (below_step bes hb); clear HO_852001; clear HO_853001; clear HO876; clear HO881; clear BK851; clear BK852; clear HB; have HO_852001 := n0_; have HO_853001 := n1_; have HO876 := n2_; have HO881 := n3_; have HO886 := n4_; have BK851 := n5_; have BK852 := n6_; have HB := n7_; clear n0_ n1_ n2_ n3_ n4_ n5_ n6_ n7_; (try clear hb); (try clear ho0)) | ((with_reducible refine gate_dst (N := 9) rfl ?_); refine box_event ?hg (N := 9) ?hd (cs := #[.bool false, .slice none 0 0, .int .i64 0]) (t := 26) ?hr ?_; (case hd => rfl); (case hg => rfl); (case hr => first | (go_simp; done) | (go_simp; rfl)); intro gb888 hg w63 hbox hb; have n0_ := Aside0.mk (Kd.V_below (Kd.V_elderB (kv HO_852001) gb888 (Nat.le_of_eq hg.symm)) hb); have n1_ := Aside0.mk (Kd.V_below (Kd.V_elderB (kv HO_853001) gb888 (Nat.le_of_eq hg.symm)) hb); have n2_ := Aside0.mk (Kd.R_below (kr HO876) hb); have n3_ := Aside0.mk (Kd.R_below (kr HO881) hb); have n4_ := Aside0.mk (Kd.V_below (Kd.V_elderB (kv HO886) gb888 (Nat.le_of_eq hg.symm)) hb); have n5_ := Aside0.mk (blk_below (g := gb851) (o := .cells #[.bool t846, .slice Ao11 t847.length co11, .int .i64 t850] 26 (0, 0)) (kb BK851) hb); have n6_ := Aside0.mk (blk_below (g := gb852) (o := .cells #[.bool x853000_44, u853001, .int .i64 x853002_44] 26 (0, 0)) (kb BK852) hb); have n7_ := Aside0.mk (below_step bes hb); have n8_ := Aside0.mk (hbox); have n9_ := Aside0.mk ((by rw [hg]; exact (below_size bes) : w.heap.size ≤ gb888)); have n10_ := Aside0.mk ((by rw [hg]; exact (below_size bes) : w.heap.size ≤ gb888)); have n11_ := Aside0.mk ((by rw [hg]; exact Nat.ne_of_lt (blk_lt (g := gb851) (o := .cells #[.bool t846, .slice Ao11 t847.length co11, .int .i64 t850] 26 (0, 0)) (kb BK851)) : gb851 ≠ gb888)); have n12_ := Aside0.mk ((by rw [hg]; exact Nat.ne_of_gt (blk_lt (g := gb851) (o := .cells #[.bool t846, .slice Ao11 t847.length co11, .int .i64 t850] 26 (0, 0)) (kb BK851)) : gb888 ≠ gb851)); have n13_ := Aside0.mk ((by rw [hg]; exact Nat.ne_of_lt (blk_lt (g := gb852) (o := .cells #[.bool x853000_44, u853001, .int .i64 x853002_44] 26 (0, 0)) (kb BK852)) : gb852 ≠ gb888)); have n14_ := Aside0.mk ((by rw [hg]; exact Nat.ne_of_gt (blk_lt (g := gb852) (o := .cells #[.bool x853000_44, u853001, .int .i64 x853002_44] 26 (0, 0)) (kb BK852)) : gb888 ≠ gb852)); clear HO_852001; clear HO_853001; clear HO876; clear HO881; clear HO886; clear BK851; clear BK852; clear HB; have HO_852001 := n0_; have HO_853001 := n1_; have HO876 := n2_; have HO881 := n3_; have HO886 := n4_; have BK851 := n5_; have BK852 := n6_; have HB := n7_; have BK888 := n8_; have GW888 := n9_; have GE888 := n10_; have NB851_888 := n11_; have NB888_851 := n12_; have NB852_888 := n13_; have NB888_852 := n14_; clear n0_ n1_ n2_ n3_ n4_ n5_ n6_ n7_ n8_ n9_ n10_ n11_ n12_ n13_ n14_; clear hb hbox hg; have hnb64 := NB888_851.out; have hnc64 := NB851_888.out; have hnb65 := NB888_852.out; have hnc65 := NB852_888.out; have hcz66_0 : w63.cell? ⟨gb888, 0, none⟩ = some (.bool false) := (blk_cell BK888.out 0).trans rfl; have hcz66_1 : w63.cell? ⟨gb888, 1, none⟩ = some (.slice none 0 0) := (blk_cell BK888.out 1).trans rfl; have hcz66_2 : w63.cell? ⟨gb888, 2, none⟩ = some (.int .i64 0) := (blk_cell BK888.out 2).trans rfl; have hfz66_0 := blk_frozen BK888.out 0; have hfz66_1 := blk_frozen BK888.out 1; have hfz66_2 := blk_frozen BK888.out 2; obtain ⟨Ao67, co67, eo67⟩ := Kd.V_slice HO886.out; subst eo67) | ((with_reducible refine gate_callee (f := 27) rfl ?_); refine goesL_ (some 51) rfl rfl Tryd.func27 (by kernel_rfl) rfl #[.int .i64 0] rfl ga ?_; (with_reducible refine (dyad_Two.calls 0 t889 t890 t893 _ A57.out).mono ?_); rintro e w68 ⟨v891, rfl, ho0, hb⟩; refine ⟨_, rfl, ?_⟩; have n0_ := Aside0.mk (Kd.V_elder' (by (with_reducible repeat (first | apply Kd.V_alloc | apply Kd.V_drewN | apply Kd.V_drew)); exact (Kd.V_mono (Kd.V_far (p := ⟨gb888, 2, none⟩) (Kd.V_far (p := ⟨gb888, 1, none⟩) (Kd.V_far (p := ⟨gb888, 0, none⟩) (Kd.V_mono HO_852001.out (fun k_ hk => (⟨hk, hk.2⟩ : _ ∧ k_ ≠ gb888))) (fun _ hk => hk.2) (.bool t883)) (fun _ hk => hk.2) (.slice Ao67 t884.length co67)) (fun _ hk => hk.2) (.int .i64 t887)) (fun _ h_ => h_.1))) (Kd.R_base ho0) hb); have n1_ := Aside0.mk (Kd.V_elder' (by (with_reducible repeat (first | apply Kd.V_alloc | apply Kd.V_drewN | apply Kd.V_drew)); exact (Kd.V_mono (Kd.V_far (p := ⟨gb888, 2, none⟩) (Kd.V_far (p := ⟨gb888, 1, none⟩) (Kd.V_far (p := ⟨gb888, 0, none⟩) (Kd.V_mono HO_853001.out (fun k_ hk => (⟨hk, hk.2⟩ : _ ∧ k_ ≠ gb888))) (fun _ hk => hk.2) (.bool t883)) (fun _ hk => hk.2) (.slice Ao67 t884.length co67)) (fun _ hk => hk.2) (.int .i64 t887)) (fun _ h_ => h_.1))) (Kd.R_base ho0) hb); have n2_ := Aside0.mk (Kd.R_elder' (by (with_reducible repeat (first | apply Kd.R_alloc | apply Kd.R_drewN | apply Kd.R_drew)); exact (Kd.R_mono (Kd.R_far (p := ⟨gb888, 2, none⟩) (Kd.R_far (p := ⟨gb888, 1, none⟩) (Kd.R_far (p := ⟨gb888, 0, none⟩) (Kd.R_types HO876.out BK888.out (by decide)) (fun _ hk => hk.2) (.bool t883)) (fun _ hk => hk.2) (.slice Ao67 t884.length co67)) (fun _ hk => hk.2) (.int .i64 t887)) (fun _ h_ => h_.1))) (Kd.R_base ho0) hb); have n3_ := Aside0.mk (Kd.R_elder' (by (with_reducible repeat (first | apply Kd.R_alloc | apply Kd.R_drewN | apply Kd.R_drew)); exact (Kd.R_mono (Kd.R_far (p := ⟨gb888, 2, none⟩) (Kd.R_far (p := ⟨gb888, 1, none⟩) (Kd.R_far (p := ⟨gb888, 0, none⟩) (Kd.R_types HO881.out BK888.out (by decide)) (fun _ hk => hk.2) (.bool t883)) (fun _ hk => hk.2) (.slice Ao67 t884.length co67)) (fun _ hk => hk.2) (.int .i64 t887)) (fun _ h_ => h_.1))) (Kd.R_base ho0) hb); have n4_ := Aside0.mk (Kd.V_elder' (by (with_reducible repeat (first | apply Kd.V_alloc | apply Kd.V_drewN | apply Kd.V_drew)); exact (Kd.V_mono (Kd.V_far (p := ⟨gb888, 2, none⟩) (Kd.V_far (p := ⟨gb888, 1, none⟩) (Kd.V_far (p := ⟨gb888, 0, none⟩) (Kd.V_mono HO886.out (fun k_ hk => (⟨hk, hk.2⟩ : _ ∧ k_ ≠ gb888))) (fun _ hk => hk.2) (.bool t883)) (fun _ hk => hk.2) (.slice Ao67 t884.length co67)) (fun _ hk => hk.2) (.int .i64 t887)) (fun _ h_ => h_.1))) (Kd.R_base ho0) hb); have n5_ := Aside0.mk (Kd.R_lower (Kd.R_new' (Kd.R_new' ho0 (Kd.R_lt (by (with_reducible repeat (first | apply Kd.R_alloc | apply Kd.R_drewN | apply Kd.R_drew)); exact (Kd.R_mono (Kd.R_far (p := ⟨gb888, 2, none⟩) (Kd.R_far (p := ⟨gb888, 1, none⟩) (Kd.R_far (p := ⟨gb888, 0, none⟩) (Kd.R_types HO876.out BK888.out (by decide)) (fun _ hk => hk.2) (.bool t883)) (fun _ hk => hk.2) (.slice Ao67 t884.length co67)) (fun _ hk => hk.2) (.int .i64 t887)) (fun _ h_ => h_.1))))) (Kd.R_lt (by (with_reducible repeat (first | apply Kd.R_alloc | apply Kd.R_drewN | apply Kd.R_drew)); exact (Kd.R_mono (Kd.R_far (p := ⟨gb888, 2, none⟩) (Kd.R_far (p := ⟨gb888, 1, none⟩) (Kd.R_far (p := ⟨gb888, 0, none⟩) (Kd.R_types HO881.out BK888.out (by decide)) (fun _ hk => hk.2) (.bool t883)) (fun _ hk => hk.2) (.slice Ao67 t884.length co67)) (fun _ hk => hk.2) (.int .i64 t887)) (fun _ h_ => h_.1))))) (below_size bes)); have n6_ := Aside0.mk (blk_below (g := gb851) (o := .cells #[.bool t846, .slice Ao11 t847.length co11, .int .i64 t850] 26 (0, 0)) (by (with_reducible repeat (first | refine blk_drewN ?_ _ | refine blk_drew ?_ | refine blk_alloc ?_ _)); refine blk_far ?_ NB851_888.out _; (with_reducible repeat (first | refine blk_drewN ?_ _ | refine blk_drew ?_ | refine blk_alloc ?_ _)); refine blk_far ?_ NB851_888.out _; (with_reducible repeat (first | refine blk_drewN ?_ _ | refine blk_drew ?_ | refine blk_alloc ?_ _)); refine blk_far ?_ NB851_888.out _; (with_reducible repeat (first | refine blk_drewN ?_ _ | refine blk_drew ?_ | refine blk_alloc ?_ _)); exact BK851.out) hb); have n7_ := Aside0.mk (blk_below (g := gb852) (o := .cells #[.bool x853000_44, u853001, .int .i64 x853002_44] 26 (0, 0)) (by (with_reducible repeat (first | refine blk_drewN ?_ _ | refine blk_drew ?_ | refine blk_alloc ?_ _)); refine blk_far ?_ NB852_888.out _; (with_reducible repeat (first | refine blk_drewN ?_ _ | refine blk_drew ?_ | refine blk_alloc ?_ _)); refine blk_far ?_ NB852_888.out _; (with_reducible repeat (first | refine blk_drewN ?_ _ | refine blk_drew ?_ | refine blk_alloc ?_ _)); refine blk_far ?_ NB852_888.out _; (with_reducible repeat (first | refine blk_drewN ?_ _ | refine blk_drew ?_ | refine blk_alloc ?_ _)); exact BK852.out) hb); have n8_ := Aside0.mk (blk_below (g := gb888) (o := .cells #[.bool t883, .slice Ao67 t884.length co67, .int .i64 t887] 26 (0, 0)) (by (with_reducible repeat (first | refine blk_drewN ?_ _ | refine blk_drew ?_ | refine blk_alloc ?_ _)); refine blk_put (cs := #[.bool t883, .slice Ao67 t884.length co67, .int .i64 0]) ?_ 2 _ rfl; (with_reducible repeat (first | refine blk_drewN ?_ _ | refine blk_drew ?_ | refine blk_alloc ?_ _)); refine blk_put (cs := #[.bool t883, .slice none 0 0, .int .i64 0]) ?_ 1 _ rfl; (with_reducible repeat (first | refine blk_drewN ?_ _ | refine blk_drew ?_ | refine blk_alloc ?_ _)); refine blk_put (cs := #[.bool false, .slice none 0 0, .int .i64 0]) ?_ 0 _ rfl; (with_reducible repeat (first | refine blk_drewN ?_ _ | refine blk_drew ?_ | refine blk_alloc ?_ _)); exact BK888.out) hb); have n9_ := Aside0.mk (below_step bes hb); clear HO_852001; clear HO_853001; clear HO876; clear HO881; clear HO886; clear BK851; clear BK852; clear BK888; clear HB; have HO_852001 := n0_; have HO_853001 := n1_; have HO876 := n2_; have HO881 := n3_; have HO886 := n4_; have HO892 := n5_; have BK851 := n6_; have BK852 := n7_; have BK888 := n8_; have HB := n9_; clear n0_ n1_ n2_ n3_ n4_ n5_ n6_ n7_ n8_ n9_; (try clear hb); (try clear ho0)) | ((with_reducible refine gate_dst (N := 10) rfl ?_); refine box_event ?hg (N := 10) ?hd (cs := #[.bool false, .slice none 0 0, .int .i64 0]) (t := 26) ?hr ?_; (case hd => rfl); (case hg => rfl); (case hr => first | (go_simp; done) | (go_simp; rfl)); intro gb894 hg w69 hbox hb; have n0_ := Aside0.mk (Kd.V_below (Kd.V_elderB (kv HO_852001) gb894 (Nat.le_of_eq hg.symm)) hb); have n1_ := Aside0.mk (Kd.V_below (Kd.V_elderB (kv HO_853001) gb894 (Nat.le_of_eq hg.symm)) hb); have n2_ := Aside0.mk (Kd.R_below (kr HO876) hb); have n3_ := Aside0.mk (Kd.R_below (kr HO881) hb); have n4_ := Aside0.mk (Kd.V_below (Kd.V_elderB (kv HO886) gb894 (Nat.le_of_eq hg.symm)) hb); have n5_ := Aside0.mk (Kd.R_below (kr HO892) hb); have n6_ := Aside0.mk (blk_below (g := gb851) (o := .cells #[.bool t846, .slice Ao11 t847.length co11, .int .i64 t850] 26 (0, 0)) (kb BK851) hb); have n7_ := Aside0.mk (blk_below (g := gb852) (o := .cells #[.bool x853000_44, u853001, .int .i64 x853002_44] 26 (0, 0)) (kb BK852) hb); have n8_ := Aside0.mk (blk_below (g := gb888) (o := .cells #[.bool t883, .slice Ao67 t884.length co67, .int .i64 t887] 26 (0, 0)) (kb BK888) hb); have n9_ := Aside0.mk (below_step bes hb); have n10_ := Aside0.mk (hbox); have n11_ := Aside0.mk ((by rw [hg]; exact (below_size bes) : w.heap.size ≤ gb894)); have n12_ := Aside0.mk ((by rw [hg]; exact (below_size bes) : w.heap.size ≤ gb894)); have n13_ := Aside0.mk ((by rw [hg]; exact Nat.ne_of_lt (blk_lt (g := gb851) (o := .cells #[.bool t846, .slice Ao11 t847.length co11, .int .i64 t850] 26 (0, 0)) (kb BK851)) : gb851 ≠ gb894)); have n14_ := Aside0.mk ((by rw [hg]; exact Nat.ne_of_gt (blk_lt (g := gb851) (o := .cells #[.bool t846, .slice Ao11 t847.length co11, .int .i64 t850] 26 (0, 0)) (kb BK851)) : gb894 ≠ gb851)); have n15_ := Aside0.mk ((by rw [hg]; exact Nat.ne_of_lt (blk_lt (g := gb852) (o := .cells #[.bool x853000_44, u853001, .int .i64 x853002_44] 26 (0, 0)) (kb BK852)) : gb852 ≠ gb894)); have n16_ := Aside0.mk ((by rw [hg]; exact Nat.ne_of_gt (blk_lt (g := gb852) (o := .cells #[.bool x853000_44, u853001, .int .i64 x853002_44] 26 (0, 0)) (kb BK852)) : gb894 ≠ gb852)); have n17_ := Aside0.mk ((by rw [hg]; exact Nat.ne_of_lt (blk_lt (g := gb888) (o := .cells #[.bool t883, .slice Ao67 t884.length co67, .int .i64 t887] 26 (0, 0)) (kb BK888)) : gb888 ≠ gb894)); have n18_ := Aside0.mk ((by rw [hg]; exact Nat.ne_of_gt (blk_lt (g := gb888) (o := .cells #[.bool t883, .slice Ao67 t884.length co67, .int .i64 t887] 26 (0, 0)) (kb BK888)) : gb894 ≠ gb888)); clear HO_852001; clear HO_853001; clear HO876; clear HO881; clear HO886; clear HO892; clear BK851; clear BK852; clear BK888; clear HB; have HO_852001 := n0_; have HO_853001 := n1_; have HO876 := n2_; have HO881 := n3_; have HO886 := n4_; have HO892 := n5_; have BK851 := n6_; have BK852 := n7_; have BK888 := n8_; have HB := n9_; have BK894 := n10_; have GW894 := n11_; have GE894 := n12_; have NB851_894 := n13_; have NB894_851 := n14_; have NB852_894 := n15_; have NB894_852 := n16_; have NB888_894 := n17_; have NB894_888 := n18_; clear n0_ n1_ n2_ n3_ n4_ n5_ n6_ n7_ n8_ n9_ n10_ n11_ n12_ n13_ n14_ n15_ n16_ n17_ n18_; clear hb hbox hg; have hnb70 := NB894_851.out; have hnc70 := NB851_894.out; have hnb71 := NB894_852.out; have hnc71 := NB852_894.out; have hnb72 := NB894_888.out; have hnc72 := NB888_894.out; have hcz73_0 : w69.cell? ⟨gb894, 0, none⟩ = some (.bool false) := (blk_cell BK894.out 0).trans rfl; have hcz73_1 : w69.cell? ⟨gb894, 1, none⟩ = some (.slice none 0 0) := (blk_cell BK894.out 1).trans rfl; have hcz73_2 : w69.cell? ⟨gb894, 2, none⟩ = some (.int .i64 0) := (blk_cell BK894.out 2).trans rfl; have hfz73_0 := blk_frozen BK894.out 0; have hfz73_1 := blk_frozen BK894.out 1; have hfz73_2 := blk_frozen BK894.out 2; obtain ⟨Ao74, co74, eo74⟩ := Kd.R_slice HO892.out; subst eo74))
         go_loopg [11] kj44 (fun kq v11 w' => ∃ (x11_4 : Int) (x895000_4 : Bool) (x895001_4 : List Int) (x895002_4 : Int) (u895001 : Value), v11 = .int .i64 x11_4 ∧ Aside0 (gimballaw07_DyadInts.l1 kq (Go.bits .and .i64 a1 1023) x11_4 t846 t847 t850 x853000_44 x853001_44 x853002_44 t883 t884 t887 x895000_4 x895001_4 x895002_4 = some r) ∧ Aside0 (kq ≤ kj44) ∧ Aside0 (Kd.V (Kd.int .u32) 56 w' w.heap.size (fun k_ => k_ ≠ gb851 ∧ k_ ≠ gb852 ∧ k_ ≠ gb888 ∧ k_ ≠ gb894) (.slice Ao11 t847.length co11) t847) ∧ Aside0 (Kd.V (Kd.int .u32) 56 w' w.heap.size (fun k_ => k_ ≠ gb851 ∧ k_ ≠ gb852 ∧ k_ ≠ gb888 ∧ k_ ≠ gb894) u853001 x853001_44) ∧ Aside0 (Kd.V (Kd.int .u32) 56 w' w.heap.size (fun k_ => k_ ≠ gb851 ∧ k_ ≠ gb852 ∧ k_ ≠ gb888 ∧ k_ ≠ gb894) (.slice Ao67 t884.length co67) t884) ∧ Aside0 (Kd.V (Kd.int .u32) 56 w' w.heap.size (fun k_ => k_ ≠ gb851 ∧ k_ ≠ gb852 ∧ k_ ≠ gb888 ∧ k_ ≠ gb894) u895001 x895001_4) ∧ Aside0 (w'.heap[gb851]? = some (.cells #[.bool t846, (.slice Ao11 t847.length co11), .int .i64 t850] 26 (0, 0))) ∧ Aside0 (w'.heap[gb852]? = some (.cells #[.bool x853000_44, u853001, .int .i64 x853002_44] 26 (0, 0))) ∧ Aside0 (w'.heap[gb888]? = some (.cells #[.bool t883, (.slice Ao67 t884.length co67), .int .i64 t887] 26 (0, 0))) ∧ Aside0 (w'.heap[gb894]? = some (.cells #[.bool x895000_4, u895001, .int .i64 x895002_4] 26 (0, 0))) ∧ Aside0 (Below w.heap.size w w'))
         case atStart => exact ⟨(0), (t889), (t890), (t893), (.slice Ao74 t890.length co74), (by first | rfl | (simp; done) | (simp [*]; done)), H', ⟨Nat.le_refl _⟩, ⟨by (with_reducible repeat (first | apply Kd.V_alloc | apply Kd.V_drewN | apply Kd.V_drew)); exact Kd.V_mono (Kd.V_far (p := ⟨gb894, 2, none⟩) (Kd.V_far (p := ⟨gb894, 1, none⟩) (Kd.V_far (p := ⟨gb894, 0, none⟩) (Kd.V_mono HO_852001.out (fun k_ hk => (⟨hk, hk.2⟩ : _ ∧ k_ ≠ gb894))) (fun _ hk => hk.2) (.bool t889)) (fun _ hk => hk.2) (.slice Ao74 t890.length co74)) (fun _ hk => hk.2) (.int .i64 t893)) (fun _ hk => ⟨hk.1.1.1.1.1.1.1, ⟨hk.1.1.1.1.1.1.2, ⟨hk.1.1.1.2, hk.1.2⟩⟩⟩)⟩, ⟨by (with_reducible repeat (first | apply Kd.V_alloc | apply Kd.V_drewN | apply Kd.V_drew)); exact Kd.V_mono (Kd.V_far (p := ⟨gb894, 2, none⟩) (Kd.V_far (p := ⟨gb894, 1, none⟩) (Kd.V_far (p := ⟨gb894, 0, none⟩) (Kd.V_mono HO_853001.out (fun k_ hk => (⟨hk, hk.2⟩ : _ ∧ k_ ≠ gb894))) (fun _ hk => hk.2) (.bool t889)) (fun _ hk => hk.2) (.slice Ao74 t890.length co74)) (fun _ hk => hk.2) (.int .i64 t893)) (fun _ hk => ⟨hk.1.1.1.1.1.1.1, ⟨hk.1.1.1.1.1.1.2, ⟨hk.1.1.1.2, hk.1.2⟩⟩⟩)⟩, ⟨by (with_reducible repeat (first | apply Kd.V_alloc | apply Kd.V_drewN | apply Kd.V_drew)); exact Kd.V_mono (Kd.V_far (p := ⟨gb894, 2, none⟩) (Kd.V_far (p := ⟨gb894, 1, none⟩) (Kd.V_far (p := ⟨gb894, 0, none⟩) (Kd.V_mono HO886.out (fun k_ hk => (⟨hk, hk.2⟩ : _ ∧ k_ ≠ gb894))) (fun _ hk => hk.2) (.bool t889)) (fun _ hk => hk.2) (.slice Ao74 t890.length co74)) (fun _ hk => hk.2) (.int .i64 t893)) (fun _ hk => ⟨hk.1.1.1.1.2.2.1, ⟨hk.1.1.1.1.2.2.2, ⟨hk.1.1.1.2, hk.1.2⟩⟩⟩)⟩, ⟨Kd.R_V (by (with_reducible repeat (first | apply Kd.R_alloc | apply Kd.R_drewN | apply Kd.R_drew)); exact Kd.R_mono (Kd.R_far (p := ⟨gb894, 2, none⟩) (Kd.R_far (p := ⟨gb894, 1, none⟩) (Kd.R_far (p := ⟨gb894, 0, none⟩) (Kd.R_types (Kd.R_types (Kd.R_types (Kd.R_types (Kd.R_types HO892.out BK851.out (by decide)) BK852.out (by decide)) BK888.out (by decide)) BK894.out (by decide)) BK894.out (by decide)) (fun _ hk => hk.2) (.bool t889)) (fun _ hk => hk.2) (.slice Ao74 t890.length co74)) (fun _ hk => hk.2) (.int .i64 t893)) (fun _ hk => ⟨hk.1.1.1.1.2, ⟨hk.1.1.1.2, ⟨hk.1.1.2, hk.1.2⟩⟩⟩))⟩, ⟨by (with_reducible repeat (first | refine blk_drewN ?_ _ | refine blk_drew ?_ | refine blk_alloc ?_ _)); refine blk_far ?_ NB851_894.out _; (with_reducible repeat (first | refine blk_drewN ?_ _ | refine blk_drew ?_ | refine blk_alloc ?_ _)); refine blk_far ?_ NB851_894.out _; (with_reducible repeat (first | refine blk_drewN ?_ _ | refine blk_drew ?_ | refine blk_alloc ?_ _)); refine blk_far ?_ NB851_894.out _; (with_reducible repeat (first | refine blk_drewN ?_ _ | refine blk_drew ?_ | refine blk_alloc ?_ _)); exact BK851.out⟩, ⟨by (with_reducible repeat (first | refine blk_drewN ?_ _ | refine blk_drew ?_ | refine blk_alloc ?_ _)); refine blk_far ?_ NB852_894.out _; (with_reducible repeat (first | refine blk_drewN ?_ _ | refine blk_drew ?_ | refine blk_alloc ?_ _)); refine blk_far ?_ NB852_894.out _; (with_reducible repeat (first | refine blk_drewN ?_ _ | refine blk_drew ?_ | refine blk_alloc ?_ _)); refine blk_far ?_ NB852_894.out _; (with_reducible repeat (first | refine blk_drewN ?_ _ | refine blk_drew ?_ | refine blk_alloc ?_ _)); exact BK852.out⟩, ⟨by (with_reducible repeat (first | refine blk_drewN ?_ _ | refine blk_drew ?_ | refine blk_alloc ?_ _)); refine blk_far ?_ NB888_894.out _; (with_reducible repeat (first | refine blk_drewN ?_ _ | refine blk_drew ?_ | refine blk_alloc ?_ _)); refine blk_far ?_ NB888_894.out _; (with_reducible repeat (first | refine blk_drewN ?_ _ | refine blk_drew ?_ | refine blk_alloc ?_ _)); refine blk_far ?_ NB888_894.out _; (with_reducible repeat (first | refine blk_drewN ?_ _ | refine blk_drew ?_ | refine blk_alloc ?_ _)); exact BK888.out⟩, ⟨by (with_reducible repeat (first | refine blk_drewN ?_ _ | refine blk_drew ?_ | refine blk_alloc ?_ _)); refine blk_put (cs := #[.bool t889, .slice Ao74 t890.length co74, .int .i64 0]) ?_ 2 _ rfl; (with_reducible repeat (first | refine blk_drewN ?_ _ | refine blk_drew ?_ | refine blk_alloc ?_ _)); refine blk_put (cs := #[.bool t889, .slice none 0 0, .int .i64 0]) ?_ 1 _ rfl; (with_reducible repeat (first | refine blk_drewN ?_ _ | refine blk_drew ?_ | refine blk_alloc ?_ _)); refine blk_put (cs := #[.bool false, .slice none 0 0, .int .i64 0]) ?_ 0 _ rfl; (with_reducible repeat (first | refine blk_drewN ?_ _ | refine blk_drew ?_ | refine blk_alloc ?_ _)); exact BK894.out⟩, ⟨bes⟩⟩
         case round =>
          clear H'
          try clear c1
          try clear c2
          try clear p2
          try clear c3
          try clear c4
          try clear c5
          try clear c6
          try clear p6
          try clear c7
          try clear c11
          try clear c12
          try clear c12b0
          try clear c13
          try clear c14
          try clear c16
          try clear c16b0
          try clear c19
          try clear c19b0
          try clear c19b1
          try clear c21
          try clear c21b0
          try clear c21b1
          try clear c24
          try clear c25
          try clear c26
          try clear c27
          try clear c39
          try clear c46
          try clear c46b0
          try clear c48
          try clear c64
          try clear p64
          try clear c65
          try clear c70
          try clear c71
          try clear c72
          try clear hcz10_0
          try clear hcz10_1
          try clear hcz10_2
          try clear hcz15_0
          try clear hcz15_1
          try clear hcz15_2
          try clear hcz25_0
          try clear hcz25_1
          try clear hcz25_2
          try clear hcz28_0
          try clear hcz28_1
          try clear hcz28_2
          try clear hcz40_0
          try clear hcz40_1
          try clear hcz40_2
          try clear hcz43_0
          try clear hcz43_1
          try clear hcz43_2
          try clear hcz49_0
          try clear hcz49_1
          try clear hcz49_2
          try clear hcz52_0
          try clear hcz52_1
          try clear hcz52_2
          try clear hcz66_0
          try clear hcz66_1
          try clear hcz66_2
          try clear hcz73_0
          try clear hcz73_1
          try clear hcz73_2
          try clear hfz10_0
          try clear hfz10_1
          try clear hfz10_2
          try clear hfz15_0
          try clear hfz15_1
          try clear hfz15_2
          try clear hfz25_0
          try clear hfz25_1
          try clear hfz25_2
          try clear hfz28_0
          try clear hfz28_1
          try clear hfz28_2
          try clear hfz40_0
          try clear hfz40_1
          try clear hfz40_2
          try clear hfz43_0
          try clear hfz43_1
          try clear hfz43_2
          try clear hfz49_0
          try clear hfz49_1
          try clear hfz49_2
          try clear hfz52_0
          try clear hfz52_1
          try clear hfz52_2
          try clear hfz66_0
          try clear hfz66_1
          try clear hfz66_2
          try clear hfz73_0
          try clear hfz73_1
          try clear hfz73_2
          try clear p2
          try clear p6
          obtain ⟨x11_4, x895000_4, x895001_4, x895002_4, u895001, rfl, HA, HK4, HO_852001, HO_853001, HO_889001, HO_895001, BK851, BK852, BK888, BK894, HB⟩ := hrel
          cases gk with
          | zero => exact absurd HA.out (by simp [gimballaw07_DyadInts.l1])
          | succ k4 =>
           have H := HA.out
           clear HA
           simp only [gimballaw07_DyadInts.l1] at H
           by_cases c75 : x11_4 < (Go.bits .and .i64 (Go.bits .and .i64 a1 1023) 31)
           ·
            rw [if_pos c75] at H
            have c75b0 : decide (x11_4 < (Go.bits .and .i64 (Go.bits .and .i64 a1 1023) 31)) = true := decide_eq_true c75
            clear c75
            obtain ⟨⟨t895, t896, t899⟩, A760, H⟩ := Option.bind_eq_some_iff.mp H
            (try dsimp -simprocs only at H)
            have A76 := Aside0.mk A760
            clear A760
            have H' := Aside0.mk H
            clear H
            have hnb77 := NB894_851.out
            have hnc77 := NB851_894.out
            have hnb78 := NB894_852.out
            have hnc78 := NB852_894.out
            have hnb79 := NB894_888.out
            have hnc79 := NB888_894.out
            have hcz80_0 : wr.cell? ⟨gb894, 0, none⟩ = some (.bool x895000_4) := (blk_cell BK894.out 0).trans rfl
            have hcz80_1 : wr.cell? ⟨gb894, 1, none⟩ = some (u895001) := (blk_cell BK894.out 1).trans rfl
            have hcz80_2 : wr.cell? ⟨gb894, 2, none⟩ = some (.int .i64 x895002_4) := (blk_cell BK894.out 2).trans rfl
            have hfz80_0 := blk_frozen BK894.out 0
            have hfz80_1 := blk_frozen BK894.out 1
            have hfz80_2 := blk_frozen BK894.out 2
            obtain ⟨Ao81, co81, eo81⟩ := Kd.V_slice HO_895001.out
            subst eo81
            go_wp2_with (first | ((with_reducible refine gate_callee (f := 11) rfl ?_); refine goesL_ (some 60) rfl rfl Tryd.func11 (by kernel_rfl) rfl #[.agg #[.bool x895000_4, .slice Ao81 x895001_4.length co81, .int .i64 x895002_4], .agg #[.bool x895000_4, .slice Ao81 x895001_4.length co81, .int .i64 x895002_4]] rfl ga ?_; (with_reducible refine (dyad_Num_Add.calls k4 x895000_4 (fun k_ => (k_ ≠ gb851 ∧ (k_ ≠ gb852 ∧ (k_ ≠ gb888 ∧ k_ ≠ gb894)))) _ _ x895001_4 x895002_4 x895000_4 (fun k_ => (k_ ≠ gb851 ∧ (k_ ≠ gb852 ∧ (k_ ≠ gb888 ∧ k_ ≠ gb894)))) _ _ x895001_4 x895002_4 t895 t896 t899 _ ?side1 ?side2 ?side3 A76.out).mono ?_); (case side1 => exact HO_895001.out); (case side2 => exact HO_895001.out); (case side3 => first | exact hT | exact TabW.drewN hT _ | exact TabW.drew hT | exact TabW.below hT bes); rintro e w82 ⟨v897, rfl, ho0, hb⟩; refine ⟨_, rfl, ?_⟩; have n0_ := Aside0.mk (Kd.V_below (kv HO_852001) hb); have n1_ := Aside0.mk (Kd.V_below (kv HO_853001) hb); have n2_ := Aside0.mk (Kd.V_below (kv HO_889001) hb); have n3_ := Aside0.mk (Kd.V_below (kv HO_895001) hb); have n4_ := Aside0.mk (Kd.V_lower (Kd.V_mono (ok' := fun k_ => k_ ≠ gb851 ∧ k_ ≠ gb852 ∧ k_ ≠ gb888 ∧ k_ ≠ gb894) ho0 (fun k_ hk_ => ⟨Or.elim hk_ (fun hs_ => Or.elim hs_ (fun hs_ => hs_.1) (fun hs_ => hs_.1)) (fun hn_ => (Kd.freshB (g := gb851) (o := .cells #[.bool t846, .slice Ao11 t847.length co11, .int .i64 t850] 26 (0, 0)) (kb BK851) k_ hn_)), Or.elim hk_ (fun hs_ => Or.elim hs_ (fun hs_ => hs_.2.1) (fun hs_ => hs_.2.1)) (fun hn_ => (Kd.freshB (g := gb852) (o := .cells #[.bool x853000_44, u853001, .int .i64 x853002_44] 26 (0, 0)) (kb BK852) k_ hn_)), Or.elim hk_ (fun hs_ => Or.elim hs_ (fun hs_ => hs_.2.2.1) (fun hs_ => hs_.2.2.1)) (fun hn_ => (Kd.freshB (g := gb888) (o := .cells #[.bool t883, .slice Ao67 t884.length co67, .int .i64 t887] 26 (0, 0)) (kb BK888) k_ hn_)), Or.elim hk_ (fun hs_ => Or.elim hs_ (fun hs_ => hs_.2.2.2) (fun hs_ => hs_.2.2.2)) (fun hn_ => (Kd.freshB (g := gb894) (o := .cells #[.bool x895000_4, .slice Ao81 x895001_4.length co81, .int .i64 x895002_4] 26 (0, 0)) (kb BK894) k_ hn_))⟩)) (below_size bes)); have n5_ := Aside0.mk (blk_below (g := gb851) (o := .cells #[.bool t846, .slice Ao11 t847.length co11, .int .i64 t850] 26 (0, 0)) (kb BK851) hb); have n6_ := Aside0.mk (blk_below (g := gb852) (o := .cells #[.bool x853000_44, u853001, .int .i64 x853002_44] 26 (0, 0)) (kb BK852) hb); have n7_ := Aside0.mk (blk_below (g := gb888) (o := .cells #[.bool t883, .slice Ao67 t884.length co67, .int .i64 t887] 26 (0, 0)) (kb BK888) hb); have n8_ := Aside0.mk (blk_below (g := gb894) (o := .cells #[.bool x895000_4, .slice Ao81 x895001_4.length co81, .int .i64 x895002_4] 26 (0, 0)) (kb BK894) hb); have n9_ := Aside0.mk (below_step bes hb); clear HO_852001; clear HO_853001; clear HO_889001; clear HO_895001; clear BK851; clear BK852; clear BK888; clear BK894; clear HB; have HO_852001 := n0_; have HO_853001 := n1_; have HO_889001 := n2_; have HO_895001 := n3_; have HO898 := n4_; have BK851 := n5_; have BK852 := n6_; have BK888 := n7_; have BK894 := n8_; have HB := n9_; clear n0_ n1_ n2_ n3_ n4_ n5_ n6_ n7_ n8_ n9_; (try clear hb); (try clear ho0); have hcz83_0 : w82.cell? ⟨gb894, 0, none⟩ = some (.bool x895000_4) := (blk_cell BK894.out 0).trans rfl; have hcz83_1 : w82.cell? ⟨gb894, 1, none⟩ = some (.slice Ao81 x895001_4.length co81) := (blk_cell BK894.out 1).trans rfl; have hcz83_2 : w82.cell? ⟨gb894, 2, none⟩ = some (.int .i64 x895002_4) := (blk_cell BK894.out 2).trans rfl; have hfz83_0 := blk_frozen BK894.out 0; have hfz83_1 := blk_frozen BK894.out 1; have hfz83_2 := blk_frozen BK894.out 2; obtain ⟨Ao84, co84, eo84⟩ := Kd.V_slice HO898.out; subst eo84))
            go_roundg k4
            case measure => have := HJ5.out; have := HK2.out; have := HJ44.out; have := HK4.out; omega
            case rel => exact ⟨(wrap64 (x11_4 + 1)), (t895), (t896), (t899), (.slice Ao84 t896.length co84), (by first | rfl | (simp; done) | (simp [*]; done)), H', ⟨by have := HJ5.out; have := HK2.out; have := HJ44.out; have := HK4.out; omega⟩, ⟨by (with_reducible repeat (first | apply Kd.V_alloc | apply Kd.V_drewN | apply Kd.V_drew)); exact Kd.V_mono (Kd.V_far (p := ⟨gb894, 2, none⟩) (Kd.V_far (p := ⟨gb894, 1, none⟩) (Kd.V_far (p := ⟨gb894, 0, none⟩) (Kd.V_mono HO_852001.out (fun k_ hk => (⟨hk, hk.2.2.2⟩ : _ ∧ k_ ≠ gb894))) (fun _ hk => hk.2) (.bool t895)) (fun _ hk => hk.2) (.slice Ao84 t896.length co84)) (fun _ hk => hk.2) (.int .i64 t899)) (fun _ hk => ⟨hk.1.1, ⟨hk.1.2.1, ⟨hk.1.2.2.1, hk.1.2.2.2⟩⟩⟩)⟩, ⟨by (with_reducible repeat (first | apply Kd.V_alloc | apply Kd.V_drewN | apply Kd.V_drew)); exact Kd.V_mono (Kd.V_far (p := ⟨gb894, 2, none⟩) (Kd.V_far (p := ⟨gb894, 1, none⟩) (Kd.V_far (p := ⟨gb894, 0, none⟩) (Kd.V_mono HO_853001.out (fun k_ hk => (⟨hk, hk.2.2.2⟩ : _ ∧ k_ ≠ gb894))) (fun _ hk => hk.2) (.bool t895)) (fun _ hk => hk.2) (.slice Ao84 t896.length co84)) (fun _ hk => hk.2) (.int .i64 t899)) (fun _ hk => ⟨hk.1.1, ⟨hk.1.2.1, ⟨hk.1.2.2.1, hk.1.2.2.2⟩⟩⟩)⟩, ⟨by (with_reducible repeat (first | apply Kd.V_alloc | apply Kd.V_drewN | apply Kd.V_drew)); exact Kd.V_mono (Kd.V_far (p := ⟨gb894, 2, none⟩) (Kd.V_far (p := ⟨gb894, 1, none⟩) (Kd.V_far (p := ⟨gb894, 0, none⟩) (Kd.V_mono HO_889001.out (fun k_ hk => (⟨hk, hk.2.2.2⟩ : _ ∧ k_ ≠ gb894))) (fun _ hk => hk.2) (.bool t895)) (fun _ hk => hk.2) (.slice Ao84 t896.length co84)) (fun _ hk => hk.2) (.int .i64 t899)) (fun _ hk => ⟨hk.1.1, ⟨hk.1.2.1, ⟨hk.1.2.2.1, hk.1.2.2.2⟩⟩⟩)⟩, ⟨by (with_reducible repeat (first | apply Kd.V_alloc | apply Kd.V_drewN | apply Kd.V_drew)); exact Kd.V_mono (Kd.V_far (p := ⟨gb894, 2, none⟩) (Kd.V_far (p := ⟨gb894, 1, none⟩) (Kd.V_far (p := ⟨gb894, 0, none⟩) (Kd.V_mono HO898.out (fun k_ hk => (⟨hk, hk.2.2.2⟩ : _ ∧ k_ ≠ gb894))) (fun _ hk => hk.2) (.bool t895)) (fun _ hk => hk.2) (.slice Ao84 t896.length co84)) (fun _ hk => hk.2) (.int .i64 t899)) (fun _ hk => ⟨hk.1.1, ⟨hk.1.2.1, ⟨hk.1.2.2.1, hk.1.2.2.2⟩⟩⟩)⟩, ⟨by (with_reducible repeat (first | refine blk_drewN ?_ _ | refine blk_drew ?_ | refine blk_alloc ?_ _)); refine blk_far ?_ NB851_894.out _; (with_reducible repeat (first | refine blk_drewN ?_ _ | refine blk_drew ?_ | refine blk_alloc ?_ _)); refine blk_far ?_ NB851_894.out _; (with_reducible repeat (first | refine blk_drewN ?_ _ | refine blk_drew ?_ | refine blk_alloc ?_ _)); refine blk_far ?_ NB851_894.out _; (with_reducible repeat (first | refine blk_drewN ?_ _ | refine blk_drew ?_ | refine blk_alloc ?_ _)); exact BK851.out⟩, ⟨by (with_reducible repeat (first | refine blk_drewN ?_ _ | refine blk_drew ?_ | refine blk_alloc ?_ _)); refine blk_far ?_ NB852_894.out _; (with_reducible repeat (first | refine blk_drewN ?_ _ | refine blk_drew ?_ | refine blk_alloc ?_ _)); refine blk_far ?_ NB852_894.out _; (with_reducible repeat (first | refine blk_drewN ?_ _ | refine blk_drew ?_ | refine blk_alloc ?_ _)); refine blk_far ?_ NB852_894.out _; (with_reducible repeat (first | refine blk_drewN ?_ _ | refine blk_drew ?_ | refine blk_alloc ?_ _)); exact BK852.out⟩, ⟨by (with_reducible repeat (first | refine blk_drewN ?_ _ | refine blk_drew ?_ | refine blk_alloc ?_ _)); refine blk_far ?_ NB888_894.out _; (with_reducible repeat (first | refine blk_drewN ?_ _ | refine blk_drew ?_ | refine blk_alloc ?_ _)); refine blk_far ?_ NB888_894.out _; (with_reducible repeat (first | refine blk_drewN ?_ _ | refine blk_drew ?_ | refine blk_alloc ?_ _)); refine blk_far ?_ NB888_894.out _; (with_reducible repeat (first | refine blk_drewN ?_ _ | refine blk_drew ?_ | refine blk_alloc ?_ _)); exact BK888.out⟩, ⟨by (with_reducible repeat (first | refine blk_drewN ?_ _ | refine blk_drew ?_ | refine blk_alloc ?_ _)); refine blk_put (cs := #[.bool t895, .slice Ao84 t896.length co84, .int .i64 x895002_4]) ?_ 2 _ rfl; (with_reducible repeat (first | refine blk_drewN ?_ _ | refine blk_drew ?_ | refine blk_alloc ?_ _)); refine blk_put (cs := #[.bool t895, .slice Ao81 x895001_4.length co81, .int .i64 x895002_4]) ?_ 1 _ rfl; (with_reducible repeat (first | refine blk_drewN ?_ _ | refine blk_drew ?_ | refine blk_alloc ?_ _)); refine blk_put (cs := #[.bool x895000_4, .slice Ao81 x895001_4.length co81, .int .i64 x895002_4]) ?_ 0 _ rfl; (with_reducible repeat (first | refine blk_drewN ?_ _ | refine blk_drew ?_ | refine blk_alloc ?_ _)); exact BK894.out⟩, ⟨bes⟩⟩
           ·
            rw [if_neg c75] at H
            have c75b0 : decide (x11_4 < (Go.bits .and .i64 (Go.bits .and .i64 a1 1023) 31)) = false := decide_eq_false c75
            clear c75
            obtain ⟨t900, A850, H⟩ := Option.bind_eq_some_iff.mp H
            (try dsimp -simprocs only at H)
            have A85 := Aside0.mk A850
            clear A850
            by_cases c86 : t900 = true
            ·
             subst c86
             rw [if_pos rfl] at H
             obtain ⟨⟨t901, t902, t905⟩, A870, H⟩ := Option.bind_eq_some_iff.mp H
             (try dsimp -simprocs only at H)
             have A87 := Aside0.mk A870
             clear A870
             obtain ⟨t906, A880, H⟩ := Option.bind_eq_some_iff.mp H
             (try dsimp -simprocs only at H)
             have A88 := Aside0.mk A880
             clear A880
             by_cases c89 : t906 = true
             ·
              subst c89
              rw [if_pos rfl] at H
              obtain ⟨⟨t907, t908, t911⟩, A900, H⟩ := Option.bind_eq_some_iff.mp H
              (try dsimp -simprocs only at H)
              have A90 := Aside0.mk A900
              clear A900
              obtain ⟨t912, A910, H⟩ := Option.bind_eq_some_iff.mp H
              (try dsimp -simprocs only at H)
              have A91 := Aside0.mk A910
              clear A910
              by_cases c92 : t912 = true
              ·
               subst c92
               rw [if_pos rfl] at H
               obtain ⟨⟨t913, t914, t917⟩, A930, H⟩ := Option.bind_eq_some_iff.mp H
               (try dsimp -simprocs only at H)
               have A93 := Aside0.mk A930
               clear A930
               obtain ⟨⟨t918, t919, t922⟩, A940, H⟩ := Option.bind_eq_some_iff.mp H
               (try dsimp -simprocs only at H)
               have A94 := Aside0.mk A940
               clear A940
               obtain ⟨t923, A950, H⟩ := Option.bind_eq_some_iff.mp H
               (try dsimp -simprocs only at H)
               have A95 := Aside0.mk A950
               clear A950
               by_cases c96 : t923 = true
               ·
                subst c96
                rw [if_pos rfl] at H
                obtain ⟨⟨t924, t925, t928⟩, A970, H⟩ := Option.bind_eq_some_iff.mp H
                (try dsimp -simprocs only at H)
                have A97 := Aside0.mk A970
                clear A970
                obtain ⟨⟨t929, t930, t933⟩, A980, H⟩ := Option.bind_eq_some_iff.mp H
                (try dsimp -simprocs only at H)
                have A98 := Aside0.mk A980
                clear A980
                obtain ⟨t934, A990, H⟩ := Option.bind_eq_some_iff.mp H
                (try dsimp -simprocs only at H)
                have A99 := Aside0.mk A990
                clear A990
                obtain rfl := Option.some.inj H
                try go_wp2
                have n0_ := Aside0.mk (Kd.V_drew HO_852001.out)
                have n1_ := Aside0.mk (Kd.V_drew HO_853001.out)
                have n2_ := Aside0.mk (Kd.V_drew HO_889001.out)
                have n3_ := Aside0.mk (Kd.V_drew HO_895001.out)
                have n4_ := Aside0.mk (blk_drew BK851.out)
                have n5_ := Aside0.mk (blk_drew BK852.out)
                have n6_ := Aside0.mk (blk_drew BK888.out)
                have n7_ := Aside0.mk (blk_drew BK894.out)
                have n8_ := Aside0.mk (below_drew1 HB.out)
                clear HO_852001
                clear HO_853001
                clear HO_889001
                clear HO_895001
                clear BK851
                clear BK852
                clear BK888
                clear BK894
                clear HB
                have HO_852001 := n0_
                have HO_853001 := n1_
                have HO_889001 := n2_
                have HO_895001 := n3_
                have BK851 := n4_
                have BK852 := n5_
                have BK888 := n6_
                have BK894 := n7_
                have HB := n8_
                clear n0_ n1_ n2_ n3_ n4_ n5_ n6_ n7_ n8_
                obtain ⟨Ao101, co101, eo101⟩ := Kd.V_slice HO_853001.out
                (first | subst eo101 | (injection eo101 with f1_ f2_ f3_; have f4_ := f1_.symm; have f5_ := f3_.symm; clear f1_ f2_ f3_; subst f4_; subst f5_))
                refine start_ (n := 26) (S := fun w' => w'.cell? ⟨gb851, 0, none⟩ = some (.bool t846) ∧ w'.cell? ⟨gb851, 1, none⟩ = some (.slice Ao11 t847.length co11) ∧ w'.cell? ⟨gb851, 2, none⟩ = some (.int .i64 t850) ∧ w'.cell? ⟨gb852, 0, none⟩ = some (.bool x853000_44) ∧ w'.cell? ⟨gb852, 1, none⟩ = some (.slice Ao101 x853001_44.length co101) ∧ w'.cell? ⟨gb852, 2, none⟩ = some (.int .i64 x853002_44) ∧ w'.cell? ⟨gb888, 0, none⟩ = some (.bool t883) ∧ w'.cell? ⟨gb888, 1, none⟩ = some (.slice Ao67 t884.length co67) ∧ w'.cell? ⟨gb888, 2, none⟩ = some (.int .i64 t887) ∧ w'.cell? ⟨gb894, 0, none⟩ = some (.bool x895000_4) ∧ w'.cell? ⟨gb894, 1, none⟩ = some (u895001) ∧ w'.cell? ⟨gb894, 2, none⟩ = some (.int .i64 x895002_4)) (ds := []) #[false, false, false, false, false, false, false, false, false, false, false, false, false, false, false, false, false, false, false, false, false, false, false, false, false, false] (by kernel_rfl) rfl rfl ⟨(blk_cell BK851.out 0).trans rfl, (blk_cell BK851.out 1).trans rfl, (blk_cell BK851.out 2).trans rfl, (blk_cell BK852.out 0).trans rfl, (blk_cell BK852.out 1).trans rfl, (blk_cell BK852.out 2).trans rfl, (blk_cell BK888.out 0).trans rfl, (blk_cell BK888.out 1).trans rfl, (blk_cell BK888.out 2).trans rfl, (blk_cell BK894.out 0).trans rfl, (blk_cell BK894.out 1).trans rfl, (blk_cell BK894.out 2).trans rfl⟩ (fun hHeld => ?_); refine with_tabW gimballaw07_DyadInts.tab23 gimballaw07_DyadInts.bits23 (fun HT_ HW_ => ?_)
                generalize wr.drew = w100 at HO_852001 HO_853001 HO_889001 HO_895001 BK851 BK852 BK888 BK894 HB hHeld ⊢
                refine take_ (i := 0) (N := some 61) (v := ?_) (a' := ?_) #[true, false, false, false, false, false, false, false, false, false, false, false, false, false, false, false, false, false, false, false, false, false, false, false, false, false] rfl rfl (take_ofW HT_.out HW_.out (by kernel_rfl)) (fun _ _ _ h => h) (Or.inl ⟨by rfl, ?_⟩) hHeld ?_ ?_
                rotate_left
                ·
                 rintro w' ⟨s0, s1, s2, s3, s4, s5, s6, s7, s8, s9, s10, s11⟩
                 go_simp
                 with_reducible rfl
                rotate_left
                ·
                 simp only [Act.put, sa0, sa1, sa2, i64_w, i32_w]
                 rfl
                refine take_ (i := 1) (N := some 62) (v := ?_) (a' := ?_) #[true, true, false, false, false, false, false, false, false, false, false, false, false, false, false, false, false, false, false, false, false, false, false, false, false, false] rfl rfl (take_ofW HT_.out HW_.out (by kernel_rfl)) (fun _ _ _ h => h) (Or.inl ⟨by rfl, ?_⟩) hHeld ?_ ?_
                rotate_left
                ·
                 rintro w' ⟨s0, s1, s2, s3, s4, s5, s6, s7, s8, s9, s10, s11⟩
                 go_simp
                 with_reducible rfl
                rotate_left
                ·
                 simp only [Act.put, sa0, sa1, sa2, i64_w, i32_w]
                 rfl
                refine one_ (i := 2) (N := some 63) #[true, true, true, false, false, false, false, false, false, false, false, false, false, false, false, false, false, false, false, false, false, false, false, false, false, false] rfl rfl (one_of HT_.out (by kernel_rfl)) (by decide) (fun K hK => ?_)
                refine goes_ Tryd.func28 (by kernel_rfl) rfl #[.agg #[.bool t846, .slice Ao11 t847.length co11, .int .i64 t850], .agg #[.bool x853000_44, .slice Ao101 x853001_44.length co101, .int .i64 x853002_44]] (by rfl) rfl rfl ga ?_
                with_reducible refine (dyad_Num_Same.calls k4 t846 _ _ t847 t850 x853000_44 _ _ x853001_44 x853002_44 true _ ?side1 ?side2 ?side3 ?side4 A85.out).mono ?_
                (case side1 => exact kvs HO_852001)
                (case side2 => exact (Kd.V_reads' HO_852001.out).2.1)
                (case side3 => exact kvs HO_853001)
                (case side4 => exact (Kd.V_reads' HO_853001.out).2.1)
                rintro e w102 ⟨rfl, hb⟩
                refine ⟨_, rfl, ?_⟩
                have n0_ := Aside0.mk (Kd.V_below (kv HO_852001) hb)
                have n1_ := Aside0.mk (Kd.V_below (kv HO_853001) hb)
                have n2_ := Aside0.mk (Kd.V_below (kv HO_889001) hb)
                have n3_ := Aside0.mk (Kd.V_below (kv HO_895001) hb)
                have n4_ := Aside0.mk (blk_below (g := gb851) (o := .cells #[.bool t846, .slice Ao11 t847.length co11, .int .i64 t850] 26 (0, 0)) (kb BK851) hb)
                have n5_ := Aside0.mk (blk_below (g := gb852) (o := .cells #[.bool x853000_44, .slice Ao101 x853001_44.length co101, .int .i64 x853002_44] 26 (0, 0)) (kb BK852) hb)
                have n6_ := Aside0.mk (blk_below (g := gb888) (o := .cells #[.bool t883, .slice Ao67 t884.length co67, .int .i64 t887] 26 (0, 0)) (kb BK888) hb)
                have n7_ := Aside0.mk (blk_below (g := gb894) (o := .cells #[.bool x895000_4, u895001, .int .i64 x895002_4] 26 (0, 0)) (kb BK894) hb)
                have n8_ := Aside0.mk (below_step bes hb)
                clear HO_852001
                clear HO_853001
                clear HO_889001
                clear HO_895001
                clear BK851
                clear BK852
                clear BK888
                clear BK894
                clear HB
                have HO_852001 := n0_
                have HO_853001 := n1_
                have HO_889001 := n2_
                have HO_895001 := n3_
                have BK851 := n4_
                have BK852 := n5_
                have BK888 := n6_
                have BK894 := n7_
                have HB := n8_
                clear n0_ n1_ n2_ n3_ n4_ n5_ n6_ n7_ n8_
                (try clear hb)
                (try clear hb2)
                (try clear hk)
                (try clear hi)
                refine hK.out _ _ ⟨(blk_cell BK851.out 0).trans rfl, (blk_cell BK851.out 1).trans rfl, (blk_cell BK851.out 2).trans rfl, (blk_cell BK852.out 0).trans rfl, (blk_cell BK852.out 1).trans rfl, (blk_cell BK852.out 2).trans rfl, (blk_cell BK888.out 0).trans rfl, (blk_cell BK888.out 1).trans rfl, (blk_cell BK888.out 2).trans rfl, (blk_cell BK894.out 0).trans rfl, (blk_cell BK894.out 1).trans rfl, (blk_cell BK894.out 2).trans rfl⟩ (fun hHeld => ?_)
                clear hK K
                refine norm_ (a' := ?_) ?_ ?_
                rotate_left
                ·
                 show Act.put _ (some 63) _ = _
                 simp only [Act.put, sa0, sa1, sa2, i64_w, i32_w]
                 rfl
                refine pure_ (i := 3) (N := some 64) (v := ?_) (a' := ?_) #[true, true, true, true, false, false, false, false, false, false, false, false, false, false, false, false, false, false, false, false, false, false, false, false, false, false] rfl rfl (any_of HT_.out (by kernel_rfl)) (fun _ _ _ h => h) (Or.inl ⟨by rfl, ?_⟩) ?_ ?_
                rotate_left
                ·
                 intro w'
                 go_simp
                 with_reducible rfl
                rotate_left
                ·
                 simp only [Act.put, sa0, sa1, sa2, i64_w, i32_w]
                 rfl
                refine take_ (i := 4) (N := some 65) (v := ?_) (a' := ?_) #[true, true, true, true, true, false, false, false, false, false, false, false, false, false, false, false, false, false, false, false, false, false, false, false, false, false] rfl rfl (take_ofW HT_.out HW_.out (by kernel_rfl)) (fun _ _ _ h => h) (Or.inl ⟨by rfl, ?_⟩) hHeld ?_ ?_
                rotate_left
                ·
                 rintro w' ⟨s0, s1, s2, s3, s4, s5, s6, s7, s8, s9, s10, s11⟩
                 go_simp
                 with_reducible rfl
                rotate_left
                ·
                 simp only [Act.put, sa0, sa1, sa2, i64_w, i32_w]
                 rfl
                refine one_ (i := 5) (N := some 66) #[true, true, true, true, true, true, false, false, false, false, false, false, false, false, false, false, false, false, false, false, false, false, false, false, false, false] rfl rfl (one_of HT_.out (by kernel_rfl)) (by decide) (fun K hK => ?_)
                refine goes_ Tryd.func25 (by kernel_rfl) rfl #[.int .i64 1] (by rfl) rfl rfl ga ?_
                with_reducible refine (dyad_Int.calls k4 1 t901 t902 t905 _ ?side1 A87.out).mono ?_
                (case side1 => first | exact hT | exact TabW.drewN hT _ | exact TabW.drew hT | exact TabW.below hT bes)
                rintro e w103 ⟨v903, rfl, ho0, hb⟩
                refine ⟨_, rfl, ?_⟩
                have n0_ := Aside0.mk (Kd.V_below (kv HO_852001) hb)
                have n1_ := Aside0.mk (Kd.V_below (kv HO_853001) hb)
                have n2_ := Aside0.mk (Kd.V_below (kv HO_889001) hb)
                have n3_ := Aside0.mk (Kd.V_below (kv HO_895001) hb)
                have n4_ := Aside0.mk (Kd.V_lower (Kd.V_mono (ok' := fun k_ => k_ ≠ gb851 ∧ k_ ≠ gb852 ∧ k_ ≠ gb888 ∧ k_ ≠ gb894) ho0 (fun k_ hk_ => ⟨(Kd.freshB (g := gb851) (o := .cells #[.bool t846, .slice Ao11 t847.length co11, .int .i64 t850] 26 (0, 0)) (kb BK851) k_ hk_), (Kd.freshB (g := gb852) (o := .cells #[.bool x853000_44, .slice Ao101 x853001_44.length co101, .int .i64 x853002_44] 26 (0, 0)) (kb BK852) k_ hk_), (Kd.freshB (g := gb888) (o := .cells #[.bool t883, .slice Ao67 t884.length co67, .int .i64 t887] 26 (0, 0)) (kb BK888) k_ hk_), (Kd.freshB (g := gb894) (o := .cells #[.bool x895000_4, u895001, .int .i64 x895002_4] 26 (0, 0)) (kb BK894) k_ hk_)⟩)) (below_size bes))
                have n5_ := Aside0.mk (blk_below (g := gb851) (o := .cells #[.bool t846, .slice Ao11 t847.length co11, .int .i64 t850] 26 (0, 0)) (kb BK851) hb)
                have n6_ := Aside0.mk (blk_below (g := gb852) (o := .cells #[.bool x853000_44, .slice Ao101 x853001_44.length co101, .int .i64 x853002_44] 26 (0, 0)) (kb BK852) hb)
                have n7_ := Aside0.mk (blk_below (g := gb888) (o := .cells #[.bool t883, .slice Ao67 t884.length co67, .int .i64 t887] 26 (0, 0)) (kb BK888) hb)
                have n8_ := Aside0.mk (blk_below (g := gb894) (o := .cells #[.bool x895000_4, u895001, .int .i64 x895002_4] 26 (0, 0)) (kb BK894) hb)
                have n9_ := Aside0.mk (below_step bes hb)
                clear HO_852001
                clear HO_853001
                clear HO_889001
                clear HO_895001
                clear BK851
                clear BK852
                clear BK888
                clear BK894
                clear HB
                have HO_852001 := n0_
                have HO_853001 := n1_
                have HO_889001 := n2_
                have HO_895001 := n3_
                have HO904 := n4_
                have BK851 := n5_
                have BK852 := n6_
                have BK888 := n7_
                have BK894 := n8_
                have HB := n9_
                clear n0_ n1_ n2_ n3_ n4_ n5_ n6_ n7_ n8_ n9_
                (try clear hb)
                (try clear hb2)
                (try clear hk)
                (try clear hi)
                (try clear ho0)
                obtain ⟨Ao104, co104, eo104⟩ := Kd.V_slice HO904.out
                (first | subst eo104 | (injection eo104 with f1_ f2_ f3_; have f4_ := f1_.symm; have f5_ := f3_.symm; clear f1_ f2_ f3_; subst f4_; subst f5_))
                refine hK.out _ _ ⟨(blk_cell BK851.out 0).trans rfl, (blk_cell BK851.out 1).trans rfl, (blk_cell BK851.out 2).trans rfl, (blk_cell BK852.out 0).trans rfl, (blk_cell BK852.out 1).trans rfl, (blk_cell BK852.out 2).trans rfl, (blk_cell BK888.out 0).trans rfl, (blk_cell BK888.out 1).trans rfl, (blk_cell BK888.out 2).trans rfl, (blk_cell BK894.out 0).trans rfl, (blk_cell BK894.out 1).trans rfl, (blk_cell BK894.out 2).trans rfl⟩ (fun hHeld => ?_)
                clear hK K
                refine norm_ (a' := ?_) ?_ ?_
                rotate_left
                ·
                 show Act.put _ (some 66) _ = _
                 simp only [Act.put, sa0, sa1, sa2, i64_w, i32_w]
                 rfl
                refine one_ (i := 6) (N := some 67) #[true, true, true, true, true, true, true, false, false, false, false, false, false, false, false, false, false, false, false, false, false, false, false, false, false, false] rfl rfl (one_of HT_.out (by kernel_rfl)) (by decide) (fun K hK => ?_)
                refine goes_ Tryd.func28 (by kernel_rfl) rfl #[.agg #[.bool t883, .slice Ao67 t884.length co67, .int .i64 t887], .agg #[.bool t901, .slice Ao104 t902.length co104, .int .i64 t905]] (by rfl) rfl rfl ga ?_
                with_reducible refine (dyad_Num_Same.calls k4 t883 _ _ t884 t887 t901 _ _ t902 t905 true _ ?side1 ?side2 ?side3 ?side4 A88.out).mono ?_
                (case side1 => exact kvs HO_889001)
                (case side2 => exact (Kd.V_reads' HO_889001.out).2.1)
                (case side3 => exact kvs HO904)
                (case side4 => exact (Kd.V_reads' HO904.out).2.1)
                rintro e w105 ⟨rfl, hb⟩
                refine ⟨_, rfl, ?_⟩
                have n0_ := Aside0.mk (Kd.V_below (kv HO_852001) hb)
                have n1_ := Aside0.mk (Kd.V_below (kv HO_853001) hb)
                have n2_ := Aside0.mk (Kd.V_below (kv HO_889001) hb)
                have n3_ := Aside0.mk (Kd.V_below (kv HO_895001) hb)
                have n4_ := Aside0.mk (Kd.V_below (kv HO904) hb)
                have n5_ := Aside0.mk (blk_below (g := gb851) (o := .cells #[.bool t846, .slice Ao11 t847.length co11, .int .i64 t850] 26 (0, 0)) (kb BK851) hb)
                have n6_ := Aside0.mk (blk_below (g := gb852) (o := .cells #[.bool x853000_44, .slice Ao101 x853001_44.length co101, .int .i64 x853002_44] 26 (0, 0)) (kb BK852) hb)
                have n7_ := Aside0.mk (blk_below (g := gb888) (o := .cells #[.bool t883, .slice Ao67 t884.length co67, .int .i64 t887] 26 (0, 0)) (kb BK888) hb)
                have n8_ := Aside0.mk (blk_below (g := gb894) (o := .cells #[.bool x895000_4, u895001, .int .i64 x895002_4] 26 (0, 0)) (kb BK894) hb)
                have n9_ := Aside0.mk (below_step bes hb)
                clear HO_852001
                clear HO_853001
                clear HO_889001
                clear HO_895001
                clear HO904
                clear BK851
                clear BK852
                clear BK888
                clear BK894
                clear HB
                have HO_852001 := n0_
                have HO_853001 := n1_
                have HO_889001 := n2_
                have HO_895001 := n3_
                have HO904 := n4_
                have BK851 := n5_
                have BK852 := n6_
                have BK888 := n7_
                have BK894 := n8_
                have HB := n9_
                clear n0_ n1_ n2_ n3_ n4_ n5_ n6_ n7_ n8_ n9_
                (try clear hb)
                (try clear hb2)
                (try clear hk)
                (try clear hi)
                refine hK.out _ _ ⟨(blk_cell BK851.out 0).trans rfl, (blk_cell BK851.out 1).trans rfl, (blk_cell BK851.out 2).trans rfl, (blk_cell BK852.out 0).trans rfl, (blk_cell BK852.out 1).trans rfl, (blk_cell BK852.out 2).trans rfl, (blk_cell BK888.out 0).trans rfl, (blk_cell BK888.out 1).trans rfl, (blk_cell BK888.out 2).trans rfl, (blk_cell BK894.out 0).trans rfl, (blk_cell BK894.out 1).trans rfl, (blk_cell BK894.out 2).trans rfl⟩ (fun hHeld => ?_)
                clear hK K
                refine norm_ (a' := ?_) ?_ ?_
                rotate_left
                ·
                 show Act.put _ (some 67) _ = _
                 simp only [Act.put, sa0, sa1, sa2, i64_w, i32_w]
                 rfl
                refine pure_ (i := 7) (N := some 68) (v := ?_) (a' := ?_) #[true, true, true, true, true, true, true, true, false, false, false, false, false, false, false, false, false, false, false, false, false, false, false, false, false, false] rfl rfl (any_of HT_.out (by kernel_rfl)) (fun _ _ _ h => h) (Or.inl ⟨by rfl, ?_⟩) ?_ ?_
                rotate_left
                ·
                 intro w'
                 go_simp
                 with_reducible rfl
                rotate_left
                ·
                 simp only [Act.put, sa0, sa1, sa2, i64_w, i32_w]
                 rfl
                refine pure_ (i := 8) (N := some 69) (v := ?_) (a' := ?_) #[true, true, true, true, true, true, true, true, true, false, false, false, false, false, false, false, false, false, false, false, false, false, false, false, false, false] rfl rfl (any_of HT_.out (by kernel_rfl)) (fun _ _ _ h => h) (Or.inl ⟨by rfl, ?_⟩) ?_ ?_
                rotate_left
                ·
                 intro w'
                 go_simp
                 with_reducible rfl
                rotate_left
                ·
                 simp only [Act.put, sa0, sa1, sa2, i64_w, i32_w]
                 rfl
                refine pure_ (i := 10) (N := some 71) (v := ?_) (a' := ?_) #[true, true, true, true, true, true, true, true, true, false, true, false, false, false, false, false, false, false, false, false, false, false, false, false, false, false] rfl rfl (any_of HT_.out (by kernel_rfl)) (fun _ _ _ h => h) (Or.inl ⟨by rfl, ?_⟩) ?_ ?_
                rotate_left
                ·
                 intro w'
                 go_simp
                 with_reducible rfl
                rotate_left
                ·
                 simp only [Act.put, sa0, sa1, sa2, i64_w, i32_w]
                 rfl
                refine pure_ (i := 11) (N := some 72) (v := ?_) (a' := ?_) #[true, true, true, true, true, true, true, true, true, false, true, true, false, false, false, false, false, false, false, false, false, false, false, false, false, false] rfl rfl (any_of HT_.out (by kernel_rfl)) (fun _ _ _ h => h) (Or.inl ⟨by rfl, ?_⟩) ?_ ?_
                rotate_left
                ·
                 intro w'
                 go_simp
                 with_reducible rfl
                rotate_left
                ·
                 simp only [Act.put, sa0, sa1, sa2, i64_w, i32_w]
                 rfl
                refine take_ (i := 9) (N := some 70) (v := ?_) (a' := ?_) #[true, true, true, true, true, true, true, true, true, true, true, true, false, false, false, false, false, false, false, false, false, false, false, false, false, false] rfl rfl (take_ofW HT_.out HW_.out (by kernel_rfl)) (fun _ _ _ h => h) (Or.inl ⟨by rfl, ?_⟩) hHeld ?_ ?_
                rotate_left
                ·
                 rintro w' ⟨s0, s1, s2, s3, s4, s5, s6, s7, s8, s9, s10, s11⟩
                 go_simp
                 with_reducible rfl
                rotate_left
                ·
                 simp only [Act.put, sa0, sa1, sa2, i64_w, i32_w]
                 rfl
                refine one_ (i := 12) (N := some 73) #[true, true, true, true, true, true, true, true, true, true, true, true, true, false, false, false, false, false, false, false, false, false, false, false, false, false] rfl rfl (one_of HT_.out (by kernel_rfl)) (by decide) (fun K hK => ?_)
                refine goes_ Tryd.func27 (by kernel_rfl) rfl #[.int .i64 (Go.bits .and .i64 (Go.bits .and .i64 a1 1023) 31)] (by rfl) rfl rfl ga ?_
                with_reducible refine (dyad_Two.calls (Go.bits .and .i64 (Go.bits .and .i64 a1 1023) 31) t907 t908 t911 _ A90.out).mono ?_
                rintro e w106 ⟨v909, rfl, ho0, hb⟩
                refine ⟨_, rfl, ?_⟩
                have n0_ := Aside0.mk (Kd.V_elder' (kv HO_852001) (Kd.R_base ho0) hb)
                have n1_ := Aside0.mk (Kd.V_elder' (kv HO_853001) (Kd.R_base ho0) hb)
                have n2_ := Aside0.mk (Kd.V_elder' (kv HO_889001) (Kd.R_base ho0) hb)
                have n3_ := Aside0.mk (Kd.V_elder' (kv HO_895001) (Kd.R_base ho0) hb)
                have n4_ := Aside0.mk (Kd.V_elder' (kv HO904) (Kd.R_base ho0) hb)
                have n5_ := Aside0.mk (Kd.R_lower ho0 (below_size bes))
                have n6_ := Aside0.mk (blk_below (g := gb851) (o := .cells #[.bool t846, .slice Ao11 t847.length co11, .int .i64 t850] 26 (0, 0)) (kb BK851) hb)
                have n7_ := Aside0.mk (blk_below (g := gb852) (o := .cells #[.bool x853000_44, .slice Ao101 x853001_44.length co101, .int .i64 x853002_44] 26 (0, 0)) (kb BK852) hb)
                have n8_ := Aside0.mk (blk_below (g := gb888) (o := .cells #[.bool t883, .slice Ao67 t884.length co67, .int .i64 t887] 26 (0, 0)) (kb BK888) hb)
                have n9_ := Aside0.mk (blk_below (g := gb894) (o := .cells #[.bool x895000_4, u895001, .int .i64 x895002_4] 26 (0, 0)) (kb BK894) hb)
                have n10_ := Aside0.mk (below_step bes hb)
                clear HO_852001
                clear HO_853001
                clear HO_889001
                clear HO_895001
                clear HO904
                clear BK851
                clear BK852
                clear BK888
                clear BK894
                clear HB
                have HO_852001 := n0_
                have HO_853001 := n1_
                have HO_889001 := n2_
                have HO_895001 := n3_
                have HO904 := n4_
                have HO910 := n5_
                have BK851 := n6_
                have BK852 := n7_
                have BK888 := n8_
                have BK894 := n9_
                have HB := n10_
                clear n0_ n1_ n2_ n3_ n4_ n5_ n6_ n7_ n8_ n9_ n10_
                (try clear hb)
                (try clear hb2)
                (try clear hk)
                (try clear hi)
                (try clear ho0)
                obtain ⟨Ao107, co107, eo107⟩ := Kd.V_slice HO_895001.out
                (first | subst eo107 | (injection eo107 with f1_ f2_ f3_; have f4_ := f1_.symm; have f5_ := f3_.symm; clear f1_ f2_ f3_; subst f4_; subst f5_))
                obtain ⟨Ao108, co108, eo108⟩ := Kd.R_slice HO910.out
                (first | subst eo108 | (injection eo108 with f1_ f2_ f3_; have f4_ := f1_.symm; have f5_ := f3_.symm; clear f1_ f2_ f3_; subst f4_; subst f5_))
                refine hK.out _ _ ⟨(blk_cell BK851.out 0).trans rfl, (blk_cell BK851.out 1).trans rfl, (blk_cell BK851.out 2).trans rfl, (blk_cell BK852.out 0).trans rfl, (blk_cell BK852.out 1).trans rfl, (blk_cell BK852.out 2).trans rfl, (blk_cell BK888.out 0).trans rfl, (blk_cell BK888.out 1).trans rfl, (blk_cell BK888.out 2).trans rfl, (blk_cell BK894.out 0).trans rfl, (blk_cell BK894.out 1).trans rfl, (blk_cell BK894.out 2).trans rfl⟩ (fun hHeld => ?_)
                clear hK K
                refine norm_ (a' := ?_) ?_ ?_
                rotate_left
                ·
                 show Act.put _ (some 73) _ = _
                 simp only [Act.put, sa0, sa1, sa2, i64_w, i32_w]
                 rfl
                refine one_ (i := 13) (N := some 74) #[true, true, true, true, true, true, true, true, true, true, true, true, true, true, false, false, false, false, false, false, false, false, false, false, false, false] rfl rfl (one_of HT_.out (by kernel_rfl)) (by decide) (fun K hK => ?_)
                refine goes_ Tryd.func28 (by kernel_rfl) rfl #[.agg #[.bool x895000_4, .slice Ao107 x895001_4.length co107, .int .i64 x895002_4], .agg #[.bool t907, .slice Ao108 t908.length co108, .int .i64 t911]] (by rfl) rfl rfl ga ?_
                with_reducible refine (dyad_Num_Same.calls k4 x895000_4 _ _ x895001_4 x895002_4 t907 _ _ t908 t911 true _ ?side1 ?side2 ?side3 ?side4 A91.out).mono ?_
                (case side1 => exact kvs HO_895001)
                (case side2 => exact (Kd.V_reads' HO_895001.out).2.1)
                (case side3 => exact ks HO910)
                (case side4 => exact (Kd.R_reads' HO910.out).2.1)
                rintro e w109 ⟨rfl, hb⟩
                refine ⟨_, rfl, ?_⟩
                have n0_ := Aside0.mk (Kd.V_below (kv HO_852001) hb)
                have n1_ := Aside0.mk (Kd.V_below (kv HO_853001) hb)
                have n2_ := Aside0.mk (Kd.V_below (kv HO_889001) hb)
                have n3_ := Aside0.mk (Kd.V_below (kv HO_895001) hb)
                have n4_ := Aside0.mk (Kd.V_below (kv HO904) hb)
                have n5_ := Aside0.mk (Kd.R_below (kr HO910) hb)
                have n6_ := Aside0.mk (blk_below (g := gb851) (o := .cells #[.bool t846, .slice Ao11 t847.length co11, .int .i64 t850] 26 (0, 0)) (kb BK851) hb)
                have n7_ := Aside0.mk (blk_below (g := gb852) (o := .cells #[.bool x853000_44, .slice Ao101 x853001_44.length co101, .int .i64 x853002_44] 26 (0, 0)) (kb BK852) hb)
                have n8_ := Aside0.mk (blk_below (g := gb888) (o := .cells #[.bool t883, .slice Ao67 t884.length co67, .int .i64 t887] 26 (0, 0)) (kb BK888) hb)
                have n9_ := Aside0.mk (blk_below (g := gb894) (o := .cells #[.bool x895000_4, .slice Ao107 x895001_4.length co107, .int .i64 x895002_4] 26 (0, 0)) (kb BK894) hb)
                have n10_ := Aside0.mk (below_step bes hb)
                clear HO_852001
                clear HO_853001
                clear HO_889001
                clear HO_895001
                clear HO904
                clear HO910
                clear BK851
                clear BK852
                clear BK888
                clear BK894
                clear HB
                have HO_852001 := n0_
                have HO_853001 := n1_
                have HO_889001 := n2_
                have HO_895001 := n3_
                have HO904 := n4_
                have HO910 := n5_
                have BK851 := n6_
                have BK852 := n7_
                have BK888 := n8_
                have BK894 := n9_
                have HB := n10_
                clear n0_ n1_ n2_ n3_ n4_ n5_ n6_ n7_ n8_ n9_ n10_
                (try clear hb)
                (try clear hb2)
                (try clear hk)
                (try clear hi)
                refine hK.out _ _ ⟨(blk_cell BK851.out 0).trans rfl, (blk_cell BK851.out 1).trans rfl, (blk_cell BK851.out 2).trans rfl, (blk_cell BK852.out 0).trans rfl, (blk_cell BK852.out 1).trans rfl, (blk_cell BK852.out 2).trans rfl, (blk_cell BK888.out 0).trans rfl, (blk_cell BK888.out 1).trans rfl, (blk_cell BK888.out 2).trans rfl, (blk_cell BK894.out 0).trans rfl, (blk_cell BK894.out 1).trans rfl, (blk_cell BK894.out 2).trans rfl⟩ (fun hHeld => ?_)
                clear hK K
                refine norm_ (a' := ?_) ?_ ?_
                rotate_left
                ·
                 show Act.put _ (some 74) _ = _
                 simp only [Act.put, sa0, sa1, sa2, i64_w, i32_w]
                 rfl
                refine pure_ (i := 14) (N := some 75) (v := ?_) (a' := ?_) #[true, true, true, true, true, true, true, true, true, true, true, true, true, true, true, false, false, false, false, false, false, false, false, false, false, false] rfl rfl (any_of HT_.out (by kernel_rfl)) (fun _ _ _ h => h) (Or.inl ⟨by rfl, ?_⟩) ?_ ?_
                rotate_left
                ·
                 intro w'
                 go_simp
                 with_reducible rfl
                rotate_left
                ·
                 simp only [Act.put, sa0, sa1, sa2, i64_w, i32_w]
                 rfl
                refine pure_ (i := 15) (N := some 76) (v := ?_) (a' := ?_) #[true, true, true, true, true, true, true, true, true, true, true, true, true, true, true, true, false, false, false, false, false, false, false, false, false, false] rfl rfl (any_of HT_.out (by kernel_rfl)) (fun _ _ _ h => h) (Or.inl ⟨by rfl, ?_⟩) ?_ ?_
                rotate_left
                ·
                 intro w'
                 go_simp
                 with_reducible rfl
                rotate_left
                ·
                 simp only [Act.put, sa0, sa1, sa2, i64_w, i32_w]
                 rfl
                refine one_ (i := 16) (N := some 77) #[true, true, true, true, true, true, true, true, true, true, true, true, true, true, true, true, true, false, false, false, false, false, false, false, false, false] rfl rfl (one_of HT_.out (by kernel_rfl)) (by decide) (fun K hK => ?_)
                refine goes_ Tryd.func27 (by kernel_rfl) rfl #[.int .i64 1099511627776] (by rfl) rfl rfl ga ?_
                with_reducible refine (dyad_Two.calls 1099511627776 t913 t914 t917 _ A93.out).mono ?_
                rintro e w110 ⟨v915, rfl, ho0, hb⟩
                refine ⟨_, rfl, ?_⟩
                have n0_ := Aside0.mk (Kd.V_elder' (kv HO_852001) (Kd.R_base ho0) hb)
                have n1_ := Aside0.mk (Kd.V_elder' (kv HO_853001) (Kd.R_base ho0) hb)
                have n2_ := Aside0.mk (Kd.V_elder' (kv HO_889001) (Kd.R_base ho0) hb)
                have n3_ := Aside0.mk (Kd.V_elder' (kv HO_895001) (Kd.R_base ho0) hb)
                have n4_ := Aside0.mk (Kd.V_elder' (kv HO904) (Kd.R_base ho0) hb)
                have n5_ := Aside0.mk (Kd.R_elder' (kr HO910) (Kd.R_base ho0) hb)
                have n6_ := Aside0.mk (Kd.R_lower (Kd.R_new' ho0 (Kd.R_lt (kr HO910))) (below_size bes))
                have n7_ := Aside0.mk (blk_below (g := gb851) (o := .cells #[.bool t846, .slice Ao11 t847.length co11, .int .i64 t850] 26 (0, 0)) (kb BK851) hb)
                have n8_ := Aside0.mk (blk_below (g := gb852) (o := .cells #[.bool x853000_44, .slice Ao101 x853001_44.length co101, .int .i64 x853002_44] 26 (0, 0)) (kb BK852) hb)
                have n9_ := Aside0.mk (blk_below (g := gb888) (o := .cells #[.bool t883, .slice Ao67 t884.length co67, .int .i64 t887] 26 (0, 0)) (kb BK888) hb)
                have n10_ := Aside0.mk (blk_below (g := gb894) (o := .cells #[.bool x895000_4, .slice Ao107 x895001_4.length co107, .int .i64 x895002_4] 26 (0, 0)) (kb BK894) hb)
                have n11_ := Aside0.mk (below_step bes hb)
                clear HO_852001
                clear HO_853001
                clear HO_889001
                clear HO_895001
                clear HO904
                clear HO910
                clear BK851
                clear BK852
                clear BK888
                clear BK894
                clear HB
                have HO_852001 := n0_
                have HO_853001 := n1_
                have HO_889001 := n2_
                have HO_895001 := n3_
                have HO904 := n4_
                have HO910 := n5_
                have HO916 := n6_
                have BK851 := n7_
                have BK852 := n8_
                have BK888 := n9_
                have BK894 := n10_
                have HB := n11_
                clear n0_ n1_ n2_ n3_ n4_ n5_ n6_ n7_ n8_ n9_ n10_ n11_
                (try clear hb)
                (try clear hb2)
                (try clear hk)
                (try clear hi)
                (try clear ho0)
                refine hK.out _ _ ⟨(blk_cell BK851.out 0).trans rfl, (blk_cell BK851.out 1).trans rfl, (blk_cell BK851.out 2).trans rfl, (blk_cell BK852.out 0).trans rfl, (blk_cell BK852.out 1).trans rfl, (blk_cell BK852.out 2).trans rfl, (blk_cell BK888.out 0).trans rfl, (blk_cell BK888.out 1).trans rfl, (blk_cell BK888.out 2).trans rfl, (blk_cell BK894.out 0).trans rfl, (blk_cell BK894.out 1).trans rfl, (blk_cell BK894.out 2).trans rfl⟩ (fun hHeld => ?_)
                clear hK K
                refine norm_ (a' := ?_) ?_ ?_
                rotate_left
                ·
                 show Act.put _ (some 77) _ = _
                 simp only [Act.put, sa0, sa1, sa2, i64_w, i32_w]
                 rfl
                refine one_ (i := 17) (N := some 78) #[true, true, true, true, true, true, true, true, true, true, true, true, true, true, true, true, true, true, false, false, false, false, false, false, false, false] rfl rfl (one_of HT_.out (by kernel_rfl)) (by decide) (fun K hK => ?_)
                refine goes_ Tryd.func27 (by kernel_rfl) rfl #[.int .i64 1048576] (by rfl) rfl rfl ga ?_
                with_reducible refine (dyad_Two.calls 1048576 t918 t919 t922 _ A94.out).mono ?_
                rintro e w111 ⟨v920, rfl, ho0, hb⟩
                refine ⟨_, rfl, ?_⟩
                have n0_ := Aside0.mk (Kd.V_elder' (kv HO_852001) (Kd.R_base ho0) hb)
                have n1_ := Aside0.mk (Kd.V_elder' (kv HO_853001) (Kd.R_base ho0) hb)
                have n2_ := Aside0.mk (Kd.V_elder' (kv HO_889001) (Kd.R_base ho0) hb)
                have n3_ := Aside0.mk (Kd.V_elder' (kv HO_895001) (Kd.R_base ho0) hb)
                have n4_ := Aside0.mk (Kd.V_elder' (kv HO904) (Kd.R_base ho0) hb)
                have n5_ := Aside0.mk (Kd.R_elder' (kr HO910) (Kd.R_base ho0) hb)
                have n6_ := Aside0.mk (Kd.R_elder' (kr HO916) (Kd.R_base ho0) hb)
                have n7_ := Aside0.mk (Kd.R_lower (Kd.R_new' (Kd.R_new' ho0 (Kd.R_lt (kr HO910))) (Kd.R_lt (kr HO916))) (below_size bes))
                have n8_ := Aside0.mk (blk_below (g := gb851) (o := .cells #[.bool t846, .slice Ao11 t847.length co11, .int .i64 t850] 26 (0, 0)) (kb BK851) hb)
                have n9_ := Aside0.mk (blk_below (g := gb852) (o := .cells #[.bool x853000_44, .slice Ao101 x853001_44.length co101, .int .i64 x853002_44] 26 (0, 0)) (kb BK852) hb)
                have n10_ := Aside0.mk (blk_below (g := gb888) (o := .cells #[.bool t883, .slice Ao67 t884.length co67, .int .i64 t887] 26 (0, 0)) (kb BK888) hb)
                have n11_ := Aside0.mk (blk_below (g := gb894) (o := .cells #[.bool x895000_4, .slice Ao107 x895001_4.length co107, .int .i64 x895002_4] 26 (0, 0)) (kb BK894) hb)
                have n12_ := Aside0.mk (below_step bes hb)
                clear HO_852001
                clear HO_853001
                clear HO_889001
                clear HO_895001
                clear HO904
                clear HO910
                clear HO916
                clear BK851
                clear BK852
                clear BK888
                clear BK894
                clear HB
                have HO_852001 := n0_
                have HO_853001 := n1_
                have HO_889001 := n2_
                have HO_895001 := n3_
                have HO904 := n4_
                have HO910 := n5_
                have HO916 := n6_
                have HO921 := n7_
                have BK851 := n8_
                have BK852 := n9_
                have BK888 := n10_
                have BK894 := n11_
                have HB := n12_
                clear n0_ n1_ n2_ n3_ n4_ n5_ n6_ n7_ n8_ n9_ n10_ n11_ n12_
                (try clear hb)
                (try clear hb2)
                (try clear hk)
                (try clear hi)
                (try clear ho0)
                obtain ⟨Ao112, co112, eo112⟩ := Kd.R_slice HO916.out
                (first | subst eo112 | (injection eo112 with f1_ f2_ f3_; have f4_ := f1_.symm; have f5_ := f3_.symm; clear f1_ f2_ f3_; subst f4_; subst f5_))
                obtain ⟨Ao113, co113, eo113⟩ := Kd.R_slice HO921.out
                (first | subst eo113 | (injection eo113 with f1_ f2_ f3_; have f4_ := f1_.symm; have f5_ := f3_.symm; clear f1_ f2_ f3_; subst f4_; subst f5_))
                refine hK.out _ _ ⟨(blk_cell BK851.out 0).trans rfl, (blk_cell BK851.out 1).trans rfl, (blk_cell BK851.out 2).trans rfl, (blk_cell BK852.out 0).trans rfl, (blk_cell BK852.out 1).trans rfl, (blk_cell BK852.out 2).trans rfl, (blk_cell BK888.out 0).trans rfl, (blk_cell BK888.out 1).trans rfl, (blk_cell BK888.out 2).trans rfl, (blk_cell BK894.out 0).trans rfl, (blk_cell BK894.out 1).trans rfl, (blk_cell BK894.out 2).trans rfl⟩ (fun hHeld => ?_)
                clear hK K
                refine norm_ (a' := ?_) ?_ ?_
                rotate_left
                ·
                 show Act.put _ (some 78) _ = _
                 simp only [Act.put, sa0, sa1, sa2, i64_w, i32_w]
                 rfl
                refine one_ (i := 18) (N := some 79) #[true, true, true, true, true, true, true, true, true, true, true, true, true, true, true, true, true, true, true, false, false, false, false, false, false, false] rfl rfl (one_of HT_.out (by kernel_rfl)) (by decide) (fun K hK => ?_)
                refine goes_ Tryd.func28 (by kernel_rfl) rfl #[.agg #[.bool t913, .slice Ao112 t914.length co112, .int .i64 t917], .agg #[.bool t918, .slice Ao113 t919.length co113, .int .i64 t922]] (by rfl) rfl rfl ga ?_
                with_reducible refine (dyad_Num_Same.calls k4 t913 _ _ t914 t917 t918 _ _ t919 t922 true _ ?side1 ?side2 ?side3 ?side4 A95.out).mono ?_
                (case side1 => exact ks HO916)
                (case side2 => exact (Kd.R_reads' HO916.out).2.1)
                (case side3 => exact ks HO921)
                (case side4 => exact (Kd.R_reads' HO921.out).2.1)
                rintro e w114 ⟨rfl, hb⟩
                refine ⟨_, rfl, ?_⟩
                have n0_ := Aside0.mk (Kd.V_below (kv HO_852001) hb)
                have n1_ := Aside0.mk (Kd.V_below (kv HO_853001) hb)
                have n2_ := Aside0.mk (Kd.V_below (kv HO_889001) hb)
                have n3_ := Aside0.mk (Kd.V_below (kv HO_895001) hb)
                have n4_ := Aside0.mk (Kd.V_below (kv HO904) hb)
                have n5_ := Aside0.mk (Kd.R_below (kr HO910) hb)
                have n6_ := Aside0.mk (Kd.R_below (kr HO916) hb)
                have n7_ := Aside0.mk (Kd.R_below (kr HO921) hb)
                have n8_ := Aside0.mk (blk_below (g := gb851) (o := .cells #[.bool t846, .slice Ao11 t847.length co11, .int .i64 t850] 26 (0, 0)) (kb BK851) hb)
                have n9_ := Aside0.mk (blk_below (g := gb852) (o := .cells #[.bool x853000_44, .slice Ao101 x853001_44.length co101, .int .i64 x853002_44] 26 (0, 0)) (kb BK852) hb)
                have n10_ := Aside0.mk (blk_below (g := gb888) (o := .cells #[.bool t883, .slice Ao67 t884.length co67, .int .i64 t887] 26 (0, 0)) (kb BK888) hb)
                have n11_ := Aside0.mk (blk_below (g := gb894) (o := .cells #[.bool x895000_4, .slice Ao107 x895001_4.length co107, .int .i64 x895002_4] 26 (0, 0)) (kb BK894) hb)
                have n12_ := Aside0.mk (below_step bes hb)
                clear HO_852001
                clear HO_853001
                clear HO_889001
                clear HO_895001
                clear HO904
                clear HO910
                clear HO916
                clear HO921
                clear BK851
                clear BK852
                clear BK888
                clear BK894
                clear HB
                have HO_852001 := n0_
                have HO_853001 := n1_
                have HO_889001 := n2_
                have HO_895001 := n3_
                have HO904 := n4_
                have HO910 := n5_
                have HO916 := n6_
                have HO921 := n7_
                have BK851 := n8_
                have BK852 := n9_
                have BK888 := n10_
                have BK894 := n11_
                have HB := n12_
                clear n0_ n1_ n2_ n3_ n4_ n5_ n6_ n7_ n8_ n9_ n10_ n11_ n12_
                (try clear hb)
                (try clear hb2)
                (try clear hk)
                (try clear hi)
                refine hK.out _ _ ⟨(blk_cell BK851.out 0).trans rfl, (blk_cell BK851.out 1).trans rfl, (blk_cell BK851.out 2).trans rfl, (blk_cell BK852.out 0).trans rfl, (blk_cell BK852.out 1).trans rfl, (blk_cell BK852.out 2).trans rfl, (blk_cell BK888.out 0).trans rfl, (blk_cell BK888.out 1).trans rfl, (blk_cell BK888.out 2).trans rfl, (blk_cell BK894.out 0).trans rfl, (blk_cell BK894.out 1).trans rfl, (blk_cell BK894.out 2).trans rfl⟩ (fun hHeld => ?_)
                clear hK K
                refine norm_ (a' := ?_) ?_ ?_
                rotate_left
                ·
                 show Act.put _ (some 79) _ = _
                 simp only [Act.put, sa0, sa1, sa2, i64_w, i32_w]
                 rfl
                refine pure_ (i := 19) (N := some 80) (v := ?_) (a' := ?_) #[true, true, true, true, true, true, true, true, true, true, true, true, true, true, true, true, true, true, true, true, false, false, false, false, false, false] rfl rfl (any_of HT_.out (by kernel_rfl)) (fun _ _ _ h => h) (Or.inl ⟨by rfl, ?_⟩) ?_ ?_
                rotate_left
                ·
                 intro w'
                 go_simp
                 with_reducible rfl
                rotate_left
                ·
                 simp only [Act.put, sa0, sa1, sa2, i64_w, i32_w]
                 rfl
                refine pure_ (i := 20) (N := some 81) (v := ?_) (a' := ?_) #[true, true, true, true, true, true, true, true, true, true, true, true, true, true, true, true, true, true, true, true, true, false, false, false, false, false] rfl rfl (any_of HT_.out (by kernel_rfl)) (fun _ _ _ h => h) (Or.inl ⟨by rfl, ?_⟩) ?_ ?_
                rotate_left
                ·
                 intro w'
                 go_simp
                 with_reducible rfl
                rotate_left
                ·
                 simp only [Act.put, sa0, sa1, sa2, i64_w, i32_w]
                 rfl
                refine one_ (i := 21) (N := some 82) #[true, true, true, true, true, true, true, true, true, true, true, true, true, true, true, true, true, true, true, true, true, true, false, false, false, false] rfl rfl (one_of HT_.out (by kernel_rfl)) (by decide) (fun K hK => ?_)
                refine goes_ Tryd.func27 (by kernel_rfl) rfl #[.int .i64 (-1099511627776)] (by rfl) rfl rfl ga ?_
                with_reducible refine (dyad_Two.calls (-1099511627776) t924 t925 t928 _ A97.out).mono ?_
                rintro e w115 ⟨v926, rfl, ho0, hb⟩
                refine ⟨_, rfl, ?_⟩
                have n0_ := Aside0.mk (Kd.V_elder' (kv HO_852001) (Kd.R_base ho0) hb)
                have n1_ := Aside0.mk (Kd.V_elder' (kv HO_853001) (Kd.R_base ho0) hb)
                have n2_ := Aside0.mk (Kd.V_elder' (kv HO_889001) (Kd.R_base ho0) hb)
                have n3_ := Aside0.mk (Kd.V_elder' (kv HO_895001) (Kd.R_base ho0) hb)
                have n4_ := Aside0.mk (Kd.V_elder' (kv HO904) (Kd.R_base ho0) hb)
                have n5_ := Aside0.mk (Kd.R_elder' (kr HO910) (Kd.R_base ho0) hb)
                have n6_ := Aside0.mk (Kd.R_elder' (kr HO916) (Kd.R_base ho0) hb)
                have n7_ := Aside0.mk (Kd.R_elder' (kr HO921) (Kd.R_base ho0) hb)
                have n8_ := Aside0.mk (Kd.R_lower (Kd.R_new' (Kd.R_new' (Kd.R_new' ho0 (Kd.R_lt (kr HO910))) (Kd.R_lt (kr HO916))) (Kd.R_lt (kr HO921))) (below_size bes))
                have n9_ := Aside0.mk (blk_below (g := gb851) (o := .cells #[.bool t846, .slice Ao11 t847.length co11, .int .i64 t850] 26 (0, 0)) (kb BK851) hb)
                have n10_ := Aside0.mk (blk_below (g := gb852) (o := .cells #[.bool x853000_44, .slice Ao101 x853001_44.length co101, .int .i64 x853002_44] 26 (0, 0)) (kb BK852) hb)
                have n11_ := Aside0.mk (blk_below (g := gb888) (o := .cells #[.bool t883, .slice Ao67 t884.length co67, .int .i64 t887] 26 (0, 0)) (kb BK888) hb)
                have n12_ := Aside0.mk (blk_below (g := gb894) (o := .cells #[.bool x895000_4, .slice Ao107 x895001_4.length co107, .int .i64 x895002_4] 26 (0, 0)) (kb BK894) hb)
                have n13_ := Aside0.mk (below_step bes hb)
                clear HO_852001
                clear HO_853001
                clear HO_889001
                clear HO_895001
                clear HO904
                clear HO910
                clear HO916
                clear HO921
                clear BK851
                clear BK852
                clear BK888
                clear BK894
                clear HB
                have HO_852001 := n0_
                have HO_853001 := n1_
                have HO_889001 := n2_
                have HO_895001 := n3_
                have HO904 := n4_
                have HO910 := n5_
                have HO916 := n6_
                have HO921 := n7_
                have HO927 := n8_
                have BK851 := n9_
                have BK852 := n10_
                have BK888 := n11_
                have BK894 := n12_
                have HB := n13_
                clear n0_ n1_ n2_ n3_ n4_ n5_ n6_ n7_ n8_ n9_ n10_ n11_ n12_ n13_
                (try clear hb)
                (try clear hb2)
                (try clear hk)
                (try clear hi)
                (try clear ho0)
                refine hK.out _ _ ⟨(blk_cell BK851.out 0).trans rfl, (blk_cell BK851.out 1).trans rfl, (blk_cell BK851.out 2).trans rfl, (blk_cell BK852.out 0).trans rfl, (blk_cell BK852.out 1).trans rfl, (blk_cell BK852.out 2).trans rfl, (blk_cell BK888.out 0).trans rfl, (blk_cell BK888.out 1).trans rfl, (blk_cell BK888.out 2).trans rfl, (blk_cell BK894.out 0).trans rfl, (blk_cell BK894.out 1).trans rfl, (blk_cell BK894.out 2).trans rfl⟩ (fun hHeld => ?_)
                clear hK K
                refine norm_ (a' := ?_) ?_ ?_
                rotate_left
                ·
                 show Act.put _ (some 82) _ = _
                 simp only [Act.put, sa0, sa1, sa2, i64_w, i32_w]
                 rfl
                refine one_ (i := 22) (N := some 83) #[true, true, true, true, true, true, true, true, true, true, true, true, true, true, true, true, true, true, true, true, true, true, true, false, false, false] rfl rfl (one_of HT_.out (by kernel_rfl)) (by decide) (fun K hK => ?_)
                refine goes_ Tryd.func27 (by kernel_rfl) rfl #[.int .i64 (-1048576)] (by rfl) rfl rfl ga ?_
                with_reducible refine (dyad_Two.calls (-1048576) t929 t930 t933 _ A98.out).mono ?_
                rintro e w116 ⟨v931, rfl, ho0, hb⟩
                refine ⟨_, rfl, ?_⟩
                have n0_ := Aside0.mk (Kd.V_elder' (kv HO_852001) (Kd.R_base ho0) hb)
                have n1_ := Aside0.mk (Kd.V_elder' (kv HO_853001) (Kd.R_base ho0) hb)
                have n2_ := Aside0.mk (Kd.V_elder' (kv HO_889001) (Kd.R_base ho0) hb)
                have n3_ := Aside0.mk (Kd.V_elder' (kv HO_895001) (Kd.R_base ho0) hb)
                have n4_ := Aside0.mk (Kd.V_elder' (kv HO904) (Kd.R_base ho0) hb)
                have n5_ := Aside0.mk (Kd.R_elder' (kr HO910) (Kd.R_base ho0) hb)
                have n6_ := Aside0.mk (Kd.R_elder' (kr HO916) (Kd.R_base ho0) hb)
                have n7_ := Aside0.mk (Kd.R_elder' (kr HO921) (Kd.R_base ho0) hb)
                have n8_ := Aside0.mk (Kd.R_elder' (kr HO927) (Kd.R_base ho0) hb)
                have n9_ := Aside0.mk (Kd.R_lower (Kd.R_new' (Kd.R_new' (Kd.R_new' (Kd.R_new' ho0 (Kd.R_lt (kr HO910))) (Kd.R_lt (kr HO916))) (Kd.R_lt (kr HO921))) (Kd.R_lt (kr HO927))) (below_size bes))
                have n10_ := Aside0.mk (blk_below (g := gb851) (o := .cells #[.bool t846, .slice Ao11 t847.length co11, .int .i64 t850] 26 (0, 0)) (kb BK851) hb)
                have n11_ := Aside0.mk (blk_below (g := gb852) (o := .cells #[.bool x853000_44, .slice Ao101 x853001_44.length co101, .int .i64 x853002_44] 26 (0, 0)) (kb BK852) hb)
                have n12_ := Aside0.mk (blk_below (g := gb888) (o := .cells #[.bool t883, .slice Ao67 t884.length co67, .int .i64 t887] 26 (0, 0)) (kb BK888) hb)
                have n13_ := Aside0.mk (blk_below (g := gb894) (o := .cells #[.bool x895000_4, .slice Ao107 x895001_4.length co107, .int .i64 x895002_4] 26 (0, 0)) (kb BK894) hb)
                have n14_ := Aside0.mk (below_step bes hb)
                clear HO_852001
                clear HO_853001
                clear HO_889001
                clear HO_895001
                clear HO904
                clear HO910
                clear HO916
                clear HO921
                clear HO927
                clear BK851
                clear BK852
                clear BK888
                clear BK894
                clear HB
                have HO_852001 := n0_
                have HO_853001 := n1_
                have HO_889001 := n2_
                have HO_895001 := n3_
                have HO904 := n4_
                have HO910 := n5_
                have HO916 := n6_
                have HO921 := n7_
                have HO927 := n8_
                have HO932 := n9_
                have BK851 := n10_
                have BK852 := n11_
                have BK888 := n12_
                have BK894 := n13_
                have HB := n14_
                clear n0_ n1_ n2_ n3_ n4_ n5_ n6_ n7_ n8_ n9_ n10_ n11_ n12_ n13_ n14_
                (try clear hb)
                (try clear hb2)
                (try clear hk)
                (try clear hi)
                (try clear ho0)
                obtain ⟨Ao117, co117, eo117⟩ := Kd.R_slice HO927.out
                (first | subst eo117 | (injection eo117 with f1_ f2_ f3_; have f4_ := f1_.symm; have f5_ := f3_.symm; clear f1_ f2_ f3_; subst f4_; subst f5_))
                obtain ⟨Ao118, co118, eo118⟩ := Kd.R_slice HO932.out
                (first | subst eo118 | (injection eo118 with f1_ f2_ f3_; have f4_ := f1_.symm; have f5_ := f3_.symm; clear f1_ f2_ f3_; subst f4_; subst f5_))
                refine hK.out _ _ ⟨(blk_cell BK851.out 0).trans rfl, (blk_cell BK851.out 1).trans rfl, (blk_cell BK851.out 2).trans rfl, (blk_cell BK852.out 0).trans rfl, (blk_cell BK852.out 1).trans rfl, (blk_cell BK852.out 2).trans rfl, (blk_cell BK888.out 0).trans rfl, (blk_cell BK888.out 1).trans rfl, (blk_cell BK888.out 2).trans rfl, (blk_cell BK894.out 0).trans rfl, (blk_cell BK894.out 1).trans rfl, (blk_cell BK894.out 2).trans rfl⟩ (fun hHeld => ?_)
                clear hK K
                refine norm_ (a' := ?_) ?_ ?_
                rotate_left
                ·
                 show Act.put _ (some 83) _ = _
                 simp only [Act.put, sa0, sa1, sa2, i64_w, i32_w]
                 rfl
                refine one_ (i := 23) (N := some 84) #[true, true, true, true, true, true, true, true, true, true, true, true, true, true, true, true, true, true, true, true, true, true, true, true, false, false] rfl rfl (one_of HT_.out (by kernel_rfl)) (by decide) (fun K hK => ?_)
                refine goes_ Tryd.func28 (by kernel_rfl) rfl #[.agg #[.bool t924, .slice Ao117 t925.length co117, .int .i64 t928], .agg #[.bool t929, .slice Ao118 t930.length co118, .int .i64 t933]] (by rfl) rfl rfl ga ?_
                with_reducible refine (dyad_Num_Same.calls k4 t924 _ _ t925 t928 t929 _ _ t930 t933 t934 _ ?side1 ?side2 ?side3 ?side4 A99.out).mono ?_
                (case side1 => exact ks HO927)
                (case side2 => exact (Kd.R_reads' HO927.out).2.1)
                (case side3 => exact ks HO932)
                (case side4 => exact (Kd.R_reads' HO932.out).2.1)
                rintro e w119 ⟨rfl, hb⟩
                refine ⟨_, rfl, ?_⟩
                have n0_ := Aside0.mk (Kd.V_below (kv HO_852001) hb)
                have n1_ := Aside0.mk (Kd.V_below (kv HO_853001) hb)
                have n2_ := Aside0.mk (Kd.V_below (kv HO_889001) hb)
                have n3_ := Aside0.mk (Kd.V_below (kv HO_895001) hb)
                have n4_ := Aside0.mk (Kd.V_below (kv HO904) hb)
                have n5_ := Aside0.mk (Kd.R_below (kr HO910) hb)
                have n6_ := Aside0.mk (Kd.R_below (kr HO916) hb)
                have n7_ := Aside0.mk (Kd.R_below (kr HO921) hb)
                have n8_ := Aside0.mk (Kd.R_below (kr HO927) hb)
                have n9_ := Aside0.mk (Kd.R_below (kr HO932) hb)
                have n10_ := Aside0.mk (blk_below (g := gb851) (o := .cells #[.bool t846, .slice Ao11 t847.length co11, .int .i64 t850] 26 (0, 0)) (kb BK851) hb)
                have n11_ := Aside0.mk (blk_below (g := gb852) (o := .cells #[.bool x853000_44, .slice Ao101 x853001_44.length co101, .int .i64 x853002_44] 26 (0, 0)) (kb BK852) hb)
                have n12_ := Aside0.mk (blk_below (g := gb888) (o := .cells #[.bool t883, .slice Ao67 t884.length co67, .int .i64 t887] 26 (0, 0)) (kb BK888) hb)
                have n13_ := Aside0.mk (blk_below (g := gb894) (o := .cells #[.bool x895000_4, .slice Ao107 x895001_4.length co107, .int .i64 x895002_4] 26 (0, 0)) (kb BK894) hb)
                have n14_ := Aside0.mk (below_step bes hb)
                clear HO_852001
                clear HO_853001
                clear HO_889001
                clear HO_895001
                clear HO904
                clear HO910
                clear HO916
                clear HO921
                clear HO927
                clear HO932
                clear BK851
                clear BK852
                clear BK888
                clear BK894
                clear HB
                have HO_852001 := n0_
                have HO_853001 := n1_
                have HO_889001 := n2_
                have HO_895001 := n3_
                have HO904 := n4_
                have HO910 := n5_
                have HO916 := n6_
                have HO921 := n7_
                have HO927 := n8_
                have HO932 := n9_
                have BK851 := n10_
                have BK852 := n11_
                have BK888 := n12_
                have BK894 := n13_
                have HB := n14_
                clear n0_ n1_ n2_ n3_ n4_ n5_ n6_ n7_ n8_ n9_ n10_ n11_ n12_ n13_ n14_
                (try clear hb)
                (try clear hb2)
                (try clear hk)
                (try clear hi)
                refine hK.out _ _ ⟨(blk_cell BK851.out 0).trans rfl, (blk_cell BK851.out 1).trans rfl, (blk_cell BK851.out 2).trans rfl, (blk_cell BK852.out 0).trans rfl, (blk_cell BK852.out 1).trans rfl, (blk_cell BK852.out 2).trans rfl, (blk_cell BK888.out 0).trans rfl, (blk_cell BK888.out 1).trans rfl, (blk_cell BK888.out 2).trans rfl, (blk_cell BK894.out 0).trans rfl, (blk_cell BK894.out 1).trans rfl, (blk_cell BK894.out 2).trans rfl⟩ (fun hHeld => ?_)
                clear hK K
                refine norm_ (a' := ?_) ?_ ?_
                rotate_left
                ·
                 show Act.put _ (some 84) _ = _
                 simp only [Act.put, sa0, sa1, sa2, i64_w, i32_w]
                 rfl
                refine pure_ (i := 24) (N := some 85) (v := ?_) (a' := ?_) #[true, true, true, true, true, true, true, true, true, true, true, true, true, true, true, true, true, true, true, true, true, true, true, true, true, false] rfl rfl (any_of HT_.out (by kernel_rfl)) (fun _ _ _ h => h) (Or.inl ⟨by rfl, ?_⟩) ?_ ?_
                rotate_left
                ·
                 intro w'
                 go_simp
                 with_reducible rfl
                rotate_left
                ·
                 simp only [Act.put, sa0, sa1, sa2, i64_w, i32_w]
                 rfl
                refine pure_ (i := 25) (N := some 4) (v := ?_) (a' := ?_) #[true, true, true, true, true, true, true, true, true, true, true, true, true, true, true, true, true, true, true, true, true, true, true, true, true, true] rfl rfl (any_of HT_.out (by kernel_rfl)) (fun _ _ _ h => h) (Or.inl ⟨by rfl, ?_⟩) ?_ ?_
                rotate_left
                ·
                 intro w'
                 go_simp
                 with_reducible rfl
                rotate_left
                ·
                 simp only [Act.put, sa0, sa1, sa2, i64_w, i32_w]
                 rfl
                refine done_ (done_of HT_.out (by kernel_rfl)) ?_
                try go_wp2
                go_ret
                exact ⟨er, bes⟩
               ·
                replace c96 := Bool.eq_false_iff.mpr c96
                subst c96
                rw [if_neg (show ¬ (false = true) by decide)] at H
                obtain rfl := Option.some.inj H
                try go_wp2
                have n0_ := Aside0.mk (Kd.V_drew HO_852001.out)
                have n1_ := Aside0.mk (Kd.V_drew HO_853001.out)
                have n2_ := Aside0.mk (Kd.V_drew HO_889001.out)
                have n3_ := Aside0.mk (Kd.V_drew HO_895001.out)
                have n4_ := Aside0.mk (blk_drew BK851.out)
                have n5_ := Aside0.mk (blk_drew BK852.out)
                have n6_ := Aside0.mk (blk_drew BK888.out)
                have n7_ := Aside0.mk (blk_drew BK894.out)
                have n8_ := Aside0.mk (below_drew1 HB.out)
                clear HO_852001
                clear HO_853001
                clear HO_889001
                clear HO_895001
                clear BK851
                clear BK852
                clear BK888
                clear BK894
                clear HB
                have HO_852001 := n0_
                have HO_853001 := n1_
                have HO_889001 := n2_
                have HO_895001 := n3_
                have BK851 := n4_
                have BK852 := n5_
                have BK888 := n6_
                have BK894 := n7_
                have HB := n8_
                clear n0_ n1_ n2_ n3_ n4_ n5_ n6_ n7_ n8_
                obtain ⟨Ao121, co121, eo121⟩ := Kd.V_slice HO_853001.out
                (first | subst eo121 | (injection eo121 with f1_ f2_ f3_; have f4_ := f1_.symm; have f5_ := f3_.symm; clear f1_ f2_ f3_; subst f4_; subst f5_))
                refine start_ (n := 26) (S := fun w' => w'.cell? ⟨gb851, 0, none⟩ = some (.bool t846) ∧ w'.cell? ⟨gb851, 1, none⟩ = some (.slice Ao11 t847.length co11) ∧ w'.cell? ⟨gb851, 2, none⟩ = some (.int .i64 t850) ∧ w'.cell? ⟨gb852, 0, none⟩ = some (.bool x853000_44) ∧ w'.cell? ⟨gb852, 1, none⟩ = some (.slice Ao121 x853001_44.length co121) ∧ w'.cell? ⟨gb852, 2, none⟩ = some (.int .i64 x853002_44) ∧ w'.cell? ⟨gb888, 0, none⟩ = some (.bool t883) ∧ w'.cell? ⟨gb888, 1, none⟩ = some (.slice Ao67 t884.length co67) ∧ w'.cell? ⟨gb888, 2, none⟩ = some (.int .i64 t887) ∧ w'.cell? ⟨gb894, 0, none⟩ = some (.bool x895000_4) ∧ w'.cell? ⟨gb894, 1, none⟩ = some (u895001) ∧ w'.cell? ⟨gb894, 2, none⟩ = some (.int .i64 x895002_4)) (ds := []) #[false, false, false, false, false, false, false, false, false, false, false, false, false, false, false, false, false, false, false, false, false, false, false, false, false, false] (by kernel_rfl) rfl rfl ⟨(blk_cell BK851.out 0).trans rfl, (blk_cell BK851.out 1).trans rfl, (blk_cell BK851.out 2).trans rfl, (blk_cell BK852.out 0).trans rfl, (blk_cell BK852.out 1).trans rfl, (blk_cell BK852.out 2).trans rfl, (blk_cell BK888.out 0).trans rfl, (blk_cell BK888.out 1).trans rfl, (blk_cell BK888.out 2).trans rfl, (blk_cell BK894.out 0).trans rfl, (blk_cell BK894.out 1).trans rfl, (blk_cell BK894.out 2).trans rfl⟩ (fun hHeld => ?_); refine with_tabW gimballaw07_DyadInts.tab23 gimballaw07_DyadInts.bits23 (fun HT_ HW_ => ?_)
                generalize wr.drew = w120 at HO_852001 HO_853001 HO_889001 HO_895001 BK851 BK852 BK888 BK894 HB hHeld ⊢
                refine take_ (i := 0) (N := some 61) (v := ?_) (a' := ?_) #[true, false, false, false, false, false, false, false, false, false, false, false, false, false, false, false, false, false, false, false, false, false, false, false, false, false] rfl rfl (take_ofW HT_.out HW_.out (by kernel_rfl)) (fun _ _ _ h => h) (Or.inl ⟨by rfl, ?_⟩) hHeld ?_ ?_
                rotate_left
                ·
                 rintro w' ⟨s0, s1, s2, s3, s4, s5, s6, s7, s8, s9, s10, s11⟩
                 go_simp
                 with_reducible rfl
                rotate_left
                ·
                 simp only [Act.put, sa0, sa1, sa2, i64_w, i32_w]
                 rfl
                refine take_ (i := 1) (N := some 62) (v := ?_) (a' := ?_) #[true, true, false, false, false, false, false, false, false, false, false, false, false, false, false, false, false, false, false, false, false, false, false, false, false, false] rfl rfl (take_ofW HT_.out HW_.out (by kernel_rfl)) (fun _ _ _ h => h) (Or.inl ⟨by rfl, ?_⟩) hHeld ?_ ?_
                rotate_left
                ·
                 rintro w' ⟨s0, s1, s2, s3, s4, s5, s6, s7, s8, s9, s10, s11⟩
                 go_simp
                 with_reducible rfl
                rotate_left
                ·
                 simp only [Act.put, sa0, sa1, sa2, i64_w, i32_w]
                 rfl
                refine one_ (i := 2) (N := some 63) #[true, true, true, false, false, false, false, false, false, false, false, false, false, false, false, false, false, false, false, false, false, false, false, false, false, false] rfl rfl (one_of HT_.out (by kernel_rfl)) (by decide) (fun K hK => ?_)
                refine goes_ Tryd.func28 (by kernel_rfl) rfl #[.agg #[.bool t846, .slice Ao11 t847.length co11, .int .i64 t850], .agg #[.bool x853000_44, .slice Ao121 x853001_44.length co121, .int .i64 x853002_44]] (by rfl) rfl rfl ga ?_
                with_reducible refine (dyad_Num_Same.calls k4 t846 _ _ t847 t850 x853000_44 _ _ x853001_44 x853002_44 true _ ?side1 ?side2 ?side3 ?side4 A85.out).mono ?_
                (case side1 => exact kvs HO_852001)
                (case side2 => exact (Kd.V_reads' HO_852001.out).2.1)
                (case side3 => exact kvs HO_853001)
                (case side4 => exact (Kd.V_reads' HO_853001.out).2.1)
                rintro e w122 ⟨rfl, hb⟩
                refine ⟨_, rfl, ?_⟩
                have n0_ := Aside0.mk (Kd.V_below (kv HO_852001) hb)
                have n1_ := Aside0.mk (Kd.V_below (kv HO_853001) hb)
                have n2_ := Aside0.mk (Kd.V_below (kv HO_889001) hb)
                have n3_ := Aside0.mk (Kd.V_below (kv HO_895001) hb)
                have n4_ := Aside0.mk (blk_below (g := gb851) (o := .cells #[.bool t846, .slice Ao11 t847.length co11, .int .i64 t850] 26 (0, 0)) (kb BK851) hb)
                have n5_ := Aside0.mk (blk_below (g := gb852) (o := .cells #[.bool x853000_44, .slice Ao121 x853001_44.length co121, .int .i64 x853002_44] 26 (0, 0)) (kb BK852) hb)
                have n6_ := Aside0.mk (blk_below (g := gb888) (o := .cells #[.bool t883, .slice Ao67 t884.length co67, .int .i64 t887] 26 (0, 0)) (kb BK888) hb)
                have n7_ := Aside0.mk (blk_below (g := gb894) (o := .cells #[.bool x895000_4, u895001, .int .i64 x895002_4] 26 (0, 0)) (kb BK894) hb)
                have n8_ := Aside0.mk (below_step bes hb)
                clear HO_852001
                clear HO_853001
                clear HO_889001
                clear HO_895001
                clear BK851
                clear BK852
                clear BK888
                clear BK894
                clear HB
                have HO_852001 := n0_
                have HO_853001 := n1_
                have HO_889001 := n2_
                have HO_895001 := n3_
                have BK851 := n4_
                have BK852 := n5_
                have BK888 := n6_
                have BK894 := n7_
                have HB := n8_
                clear n0_ n1_ n2_ n3_ n4_ n5_ n6_ n7_ n8_
                (try clear hb)
                (try clear hb2)
                (try clear hk)
                (try clear hi)
                refine hK.out _ _ ⟨(blk_cell BK851.out 0).trans rfl, (blk_cell BK851.out 1).trans rfl, (blk_cell BK851.out 2).trans rfl, (blk_cell BK852.out 0).trans rfl, (blk_cell BK852.out 1).trans rfl, (blk_cell BK852.out 2).trans rfl, (blk_cell BK888.out 0).trans rfl, (blk_cell BK888.out 1).trans rfl, (blk_cell BK888.out 2).trans rfl, (blk_cell BK894.out 0).trans rfl, (blk_cell BK894.out 1).trans rfl, (blk_cell BK894.out 2).trans rfl⟩ (fun hHeld => ?_)
                clear hK K
                refine norm_ (a' := ?_) ?_ ?_
                rotate_left
                ·
                 show Act.put _ (some 63) _ = _
                 simp only [Act.put, sa0, sa1, sa2, i64_w, i32_w]
                 rfl
                refine pure_ (i := 3) (N := some 64) (v := ?_) (a' := ?_) #[true, true, true, true, false, false, false, false, false, false, false, false, false, false, false, false, false, false, false, false, false, false, false, false, false, false] rfl rfl (any_of HT_.out (by kernel_rfl)) (fun _ _ _ h => h) (Or.inl ⟨by rfl, ?_⟩) ?_ ?_
                rotate_left
                ·
                 intro w'
                 go_simp
                 with_reducible rfl
                rotate_left
                ·
                 simp only [Act.put, sa0, sa1, sa2, i64_w, i32_w]
                 rfl
                refine take_ (i := 4) (N := some 65) (v := ?_) (a' := ?_) #[true, true, true, true, true, false, false, false, false, false, false, false, false, false, false, false, false, false, false, false, false, false, false, false, false, false] rfl rfl (take_ofW HT_.out HW_.out (by kernel_rfl)) (fun _ _ _ h => h) (Or.inl ⟨by rfl, ?_⟩) hHeld ?_ ?_
                rotate_left
                ·
                 rintro w' ⟨s0, s1, s2, s3, s4, s5, s6, s7, s8, s9, s10, s11⟩
                 go_simp
                 with_reducible rfl
                rotate_left
                ·
                 simp only [Act.put, sa0, sa1, sa2, i64_w, i32_w]
                 rfl
                refine one_ (i := 5) (N := some 66) #[true, true, true, true, true, true, false, false, false, false, false, false, false, false, false, false, false, false, false, false, false, false, false, false, false, false] rfl rfl (one_of HT_.out (by kernel_rfl)) (by decide) (fun K hK => ?_)
                refine goes_ Tryd.func25 (by kernel_rfl) rfl #[.int .i64 1] (by rfl) rfl rfl ga ?_
                with_reducible refine (dyad_Int.calls k4 1 t901 t902 t905 _ ?side1 A87.out).mono ?_
                (case side1 => first | exact hT | exact TabW.drewN hT _ | exact TabW.drew hT | exact TabW.below hT bes)
                rintro e w123 ⟨v903, rfl, ho0, hb⟩
                refine ⟨_, rfl, ?_⟩
                have n0_ := Aside0.mk (Kd.V_below (kv HO_852001) hb)
                have n1_ := Aside0.mk (Kd.V_below (kv HO_853001) hb)
                have n2_ := Aside0.mk (Kd.V_below (kv HO_889001) hb)
                have n3_ := Aside0.mk (Kd.V_below (kv HO_895001) hb)
                have n4_ := Aside0.mk (Kd.V_lower (Kd.V_mono (ok' := fun k_ => k_ ≠ gb851 ∧ k_ ≠ gb852 ∧ k_ ≠ gb888 ∧ k_ ≠ gb894) ho0 (fun k_ hk_ => ⟨(Kd.freshB (g := gb851) (o := .cells #[.bool t846, .slice Ao11 t847.length co11, .int .i64 t850] 26 (0, 0)) (kb BK851) k_ hk_), (Kd.freshB (g := gb852) (o := .cells #[.bool x853000_44, .slice Ao121 x853001_44.length co121, .int .i64 x853002_44] 26 (0, 0)) (kb BK852) k_ hk_), (Kd.freshB (g := gb888) (o := .cells #[.bool t883, .slice Ao67 t884.length co67, .int .i64 t887] 26 (0, 0)) (kb BK888) k_ hk_), (Kd.freshB (g := gb894) (o := .cells #[.bool x895000_4, u895001, .int .i64 x895002_4] 26 (0, 0)) (kb BK894) k_ hk_)⟩)) (below_size bes))
                have n5_ := Aside0.mk (blk_below (g := gb851) (o := .cells #[.bool t846, .slice Ao11 t847.length co11, .int .i64 t850] 26 (0, 0)) (kb BK851) hb)
                have n6_ := Aside0.mk (blk_below (g := gb852) (o := .cells #[.bool x853000_44, .slice Ao121 x853001_44.length co121, .int .i64 x853002_44] 26 (0, 0)) (kb BK852) hb)
                have n7_ := Aside0.mk (blk_below (g := gb888) (o := .cells #[.bool t883, .slice Ao67 t884.length co67, .int .i64 t887] 26 (0, 0)) (kb BK888) hb)
                have n8_ := Aside0.mk (blk_below (g := gb894) (o := .cells #[.bool x895000_4, u895001, .int .i64 x895002_4] 26 (0, 0)) (kb BK894) hb)
                have n9_ := Aside0.mk (below_step bes hb)
                clear HO_852001
                clear HO_853001
                clear HO_889001
                clear HO_895001
                clear BK851
                clear BK852
                clear BK888
                clear BK894
                clear HB
                have HO_852001 := n0_
                have HO_853001 := n1_
                have HO_889001 := n2_
                have HO_895001 := n3_
                have HO904 := n4_
                have BK851 := n5_
                have BK852 := n6_
                have BK888 := n7_
                have BK894 := n8_
                have HB := n9_
                clear n0_ n1_ n2_ n3_ n4_ n5_ n6_ n7_ n8_ n9_
                (try clear hb)
                (try clear hb2)
                (try clear hk)
                (try clear hi)
                (try clear ho0)
                obtain ⟨Ao124, co124, eo124⟩ := Kd.V_slice HO904.out
                (first | subst eo124 | (injection eo124 with f1_ f2_ f3_; have f4_ := f1_.symm; have f5_ := f3_.symm; clear f1_ f2_ f3_; subst f4_; subst f5_))
                refine hK.out _ _ ⟨(blk_cell BK851.out 0).trans rfl, (blk_cell BK851.out 1).trans rfl, (blk_cell BK851.out 2).trans rfl, (blk_cell BK852.out 0).trans rfl, (blk_cell BK852.out 1).trans rfl, (blk_cell BK852.out 2).trans rfl, (blk_cell BK888.out 0).trans rfl, (blk_cell BK888.out 1).trans rfl, (blk_cell BK888.out 2).trans rfl, (blk_cell BK894.out 0).trans rfl, (blk_cell BK894.out 1).trans rfl, (blk_cell BK894.out 2).trans rfl⟩ (fun hHeld => ?_)
                clear hK K
                refine norm_ (a' := ?_) ?_ ?_
                rotate_left
                ·
                 show Act.put _ (some 66) _ = _
                 simp only [Act.put, sa0, sa1, sa2, i64_w, i32_w]
                 rfl
                refine one_ (i := 6) (N := some 67) #[true, true, true, true, true, true, true, false, false, false, false, false, false, false, false, false, false, false, false, false, false, false, false, false, false, false] rfl rfl (one_of HT_.out (by kernel_rfl)) (by decide) (fun K hK => ?_)
                refine goes_ Tryd.func28 (by kernel_rfl) rfl #[.agg #[.bool t883, .slice Ao67 t884.length co67, .int .i64 t887], .agg #[.bool t901, .slice Ao124 t902.length co124, .int .i64 t905]] (by rfl) rfl rfl ga ?_
                with_reducible refine (dyad_Num_Same.calls k4 t883 _ _ t884 t887 t901 _ _ t902 t905 true _ ?side1 ?side2 ?side3 ?side4 A88.out).mono ?_
                (case side1 => exact kvs HO_889001)
                (case side2 => exact (Kd.V_reads' HO_889001.out).2.1)
                (case side3 => exact kvs HO904)
                (case side4 => exact (Kd.V_reads' HO904.out).2.1)
                rintro e w125 ⟨rfl, hb⟩
                refine ⟨_, rfl, ?_⟩
                have n0_ := Aside0.mk (Kd.V_below (kv HO_852001) hb)
                have n1_ := Aside0.mk (Kd.V_below (kv HO_853001) hb)
                have n2_ := Aside0.mk (Kd.V_below (kv HO_889001) hb)
                have n3_ := Aside0.mk (Kd.V_below (kv HO_895001) hb)
                have n4_ := Aside0.mk (Kd.V_below (kv HO904) hb)
                have n5_ := Aside0.mk (blk_below (g := gb851) (o := .cells #[.bool t846, .slice Ao11 t847.length co11, .int .i64 t850] 26 (0, 0)) (kb BK851) hb)
                have n6_ := Aside0.mk (blk_below (g := gb852) (o := .cells #[.bool x853000_44, .slice Ao121 x853001_44.length co121, .int .i64 x853002_44] 26 (0, 0)) (kb BK852) hb)
                have n7_ := Aside0.mk (blk_below (g := gb888) (o := .cells #[.bool t883, .slice Ao67 t884.length co67, .int .i64 t887] 26 (0, 0)) (kb BK888) hb)
                have n8_ := Aside0.mk (blk_below (g := gb894) (o := .cells #[.bool x895000_4, u895001, .int .i64 x895002_4] 26 (0, 0)) (kb BK894) hb)
                have n9_ := Aside0.mk (below_step bes hb)
                clear HO_852001
                clear HO_853001
                clear HO_889001
                clear HO_895001
                clear HO904
                clear BK851
                clear BK852
                clear BK888
                clear BK894
                clear HB
                have HO_852001 := n0_
                have HO_853001 := n1_
                have HO_889001 := n2_
                have HO_895001 := n3_
                have HO904 := n4_
                have BK851 := n5_
                have BK852 := n6_
                have BK888 := n7_
                have BK894 := n8_
                have HB := n9_
                clear n0_ n1_ n2_ n3_ n4_ n5_ n6_ n7_ n8_ n9_
                (try clear hb)
                (try clear hb2)
                (try clear hk)
                (try clear hi)
                refine hK.out _ _ ⟨(blk_cell BK851.out 0).trans rfl, (blk_cell BK851.out 1).trans rfl, (blk_cell BK851.out 2).trans rfl, (blk_cell BK852.out 0).trans rfl, (blk_cell BK852.out 1).trans rfl, (blk_cell BK852.out 2).trans rfl, (blk_cell BK888.out 0).trans rfl, (blk_cell BK888.out 1).trans rfl, (blk_cell BK888.out 2).trans rfl, (blk_cell BK894.out 0).trans rfl, (blk_cell BK894.out 1).trans rfl, (blk_cell BK894.out 2).trans rfl⟩ (fun hHeld => ?_)
                clear hK K
                refine norm_ (a' := ?_) ?_ ?_
                rotate_left
                ·
                 show Act.put _ (some 67) _ = _
                 simp only [Act.put, sa0, sa1, sa2, i64_w, i32_w]
                 rfl
                refine pure_ (i := 7) (N := some 68) (v := ?_) (a' := ?_) #[true, true, true, true, true, true, true, true, false, false, false, false, false, false, false, false, false, false, false, false, false, false, false, false, false, false] rfl rfl (any_of HT_.out (by kernel_rfl)) (fun _ _ _ h => h) (Or.inl ⟨by rfl, ?_⟩) ?_ ?_
                rotate_left
                ·
                 intro w'
                 go_simp
                 with_reducible rfl
                rotate_left
                ·
                 simp only [Act.put, sa0, sa1, sa2, i64_w, i32_w]
                 rfl
                refine pure_ (i := 8) (N := some 69) (v := ?_) (a' := ?_) #[true, true, true, true, true, true, true, true, true, false, false, false, false, false, false, false, false, false, false, false, false, false, false, false, false, false] rfl rfl (any_of HT_.out (by kernel_rfl)) (fun _ _ _ h => h) (Or.inl ⟨by rfl, ?_⟩) ?_ ?_
                rotate_left
                ·
                 intro w'
                 go_simp
                 with_reducible rfl
                rotate_left
                ·
                 simp only [Act.put, sa0, sa1, sa2, i64_w, i32_w]
                 rfl
                refine pure_ (i := 10) (N := some 71) (v := ?_) (a' := ?_) #[true, true, true, true, true, true, true, true, true, false, true, false, false, false, false, false, false, false, false, false, false, false, false, false, false, false] rfl rfl (any_of HT_.out (by kernel_rfl)) (fun _ _ _ h => h) (Or.inl ⟨by rfl, ?_⟩) ?_ ?_
                rotate_left
                ·
                 intro w'
                 go_simp
                 with_reducible rfl
                rotate_left
                ·
                 simp only [Act.put, sa0, sa1, sa2, i64_w, i32_w]
                 rfl
                refine pure_ (i := 11) (N := some 72) (v := ?_) (a' := ?_) #[true, true, true, true, true, true, true, true, true, false, true, true, false, false, false, false, false, false, false, false, false, false, false, false, false, false] rfl rfl (any_of HT_.out (by kernel_rfl)) (fun _ _ _ h => h) (Or.inl ⟨by rfl, ?_⟩) ?_ ?_
                rotate_left
                ·
                 intro w'
                 go_simp
                 with_reducible rfl
                rotate_left
                ·
                 simp only [Act.put, sa0, sa1, sa2, i64_w, i32_w]
                 rfl
                refine take_ (i := 9) (N := some 70) (v := ?_) (a' := ?_) #[true, true, true, true, true, true, true, true, true, true, true, true, false, false, false, false, false, false, false, false, false, false, false, false, false, false] rfl rfl (take_ofW HT_.out HW_.out (by kernel_rfl)) (fun _ _ _ h => h) (Or.inl ⟨by rfl, ?_⟩) hHeld ?_ ?_
                rotate_left
                ·
                 rintro w' ⟨s0, s1, s2, s3, s4, s5, s6, s7, s8, s9, s10, s11⟩
                 go_simp
                 with_reducible rfl
                rotate_left
                ·
                 simp only [Act.put, sa0, sa1, sa2, i64_w, i32_w]
                 rfl
                refine one_ (i := 12) (N := some 73) #[true, true, true, true, true, true, true, true, true, true, true, true, true, false, false, false, false, false, false, false, false, false, false, false, false, false] rfl rfl (one_of HT_.out (by kernel_rfl)) (by decide) (fun K hK => ?_)
                refine goes_ Tryd.func27 (by kernel_rfl) rfl #[.int .i64 (Go.bits .and .i64 (Go.bits .and .i64 a1 1023) 31)] (by rfl) rfl rfl ga ?_
                with_reducible refine (dyad_Two.calls (Go.bits .and .i64 (Go.bits .and .i64 a1 1023) 31) t907 t908 t911 _ A90.out).mono ?_
                rintro e w126 ⟨v909, rfl, ho0, hb⟩
                refine ⟨_, rfl, ?_⟩
                have n0_ := Aside0.mk (Kd.V_elder' (kv HO_852001) (Kd.R_base ho0) hb)
                have n1_ := Aside0.mk (Kd.V_elder' (kv HO_853001) (Kd.R_base ho0) hb)
                have n2_ := Aside0.mk (Kd.V_elder' (kv HO_889001) (Kd.R_base ho0) hb)
                have n3_ := Aside0.mk (Kd.V_elder' (kv HO_895001) (Kd.R_base ho0) hb)
                have n4_ := Aside0.mk (Kd.V_elder' (kv HO904) (Kd.R_base ho0) hb)
                have n5_ := Aside0.mk (Kd.R_lower ho0 (below_size bes))
                have n6_ := Aside0.mk (blk_below (g := gb851) (o := .cells #[.bool t846, .slice Ao11 t847.length co11, .int .i64 t850] 26 (0, 0)) (kb BK851) hb)
                have n7_ := Aside0.mk (blk_below (g := gb852) (o := .cells #[.bool x853000_44, .slice Ao121 x853001_44.length co121, .int .i64 x853002_44] 26 (0, 0)) (kb BK852) hb)
                have n8_ := Aside0.mk (blk_below (g := gb888) (o := .cells #[.bool t883, .slice Ao67 t884.length co67, .int .i64 t887] 26 (0, 0)) (kb BK888) hb)
                have n9_ := Aside0.mk (blk_below (g := gb894) (o := .cells #[.bool x895000_4, u895001, .int .i64 x895002_4] 26 (0, 0)) (kb BK894) hb)
                have n10_ := Aside0.mk (below_step bes hb)
                clear HO_852001
                clear HO_853001
                clear HO_889001
                clear HO_895001
                clear HO904
                clear BK851
                clear BK852
                clear BK888
                clear BK894
                clear HB
                have HO_852001 := n0_
                have HO_853001 := n1_
                have HO_889001 := n2_
                have HO_895001 := n3_
                have HO904 := n4_
                have HO910 := n5_
                have BK851 := n6_
                have BK852 := n7_
                have BK888 := n8_
                have BK894 := n9_
                have HB := n10_
                clear n0_ n1_ n2_ n3_ n4_ n5_ n6_ n7_ n8_ n9_ n10_
                (try clear hb)
                (try clear hb2)
                (try clear hk)
                (try clear hi)
                (try clear ho0)
                obtain ⟨Ao127, co127, eo127⟩ := Kd.V_slice HO_895001.out
                (first | subst eo127 | (injection eo127 with f1_ f2_ f3_; have f4_ := f1_.symm; have f5_ := f3_.symm; clear f1_ f2_ f3_; subst f4_; subst f5_))
                obtain ⟨Ao128, co128, eo128⟩ := Kd.R_slice HO910.out
                (first | subst eo128 | (injection eo128 with f1_ f2_ f3_; have f4_ := f1_.symm; have f5_ := f3_.symm; clear f1_ f2_ f3_; subst f4_; subst f5_))
                refine hK.out _ _ ⟨(blk_cell BK851.out 0).trans rfl, (blk_cell BK851.out 1).trans rfl, (blk_cell BK851.out 2).trans rfl, (blk_cell BK852.out 0).trans rfl, (blk_cell BK852.out 1).trans rfl, (blk_cell BK852.out 2).trans rfl, (blk_cell BK888.out 0).trans rfl, (blk_cell BK888.out 1).trans rfl, (blk_cell BK888.out 2).trans rfl, (blk_cell BK894.out 0).trans rfl, (blk_cell BK894.out 1).trans rfl, (blk_cell BK894.out 2).trans rfl⟩ (fun hHeld => ?_)
                clear hK K
                refine norm_ (a' := ?_) ?_ ?_
                rotate_left
                ·
                 show Act.put _ (some 73) _ = _
                 simp only [Act.put, sa0, sa1, sa2, i64_w, i32_w]
                 rfl
                refine one_ (i := 13) (N := some 74) #[true, true, true, true, true, true, true, true, true, true, true, true, true, true, false, false, false, false, false, false, false, false, false, false, false, false] rfl rfl (one_of HT_.out (by kernel_rfl)) (by decide) (fun K hK => ?_)
                refine goes_ Tryd.func28 (by kernel_rfl) rfl #[.agg #[.bool x895000_4, .slice Ao127 x895001_4.length co127, .int .i64 x895002_4], .agg #[.bool t907, .slice Ao128 t908.length co128, .int .i64 t911]] (by rfl) rfl rfl ga ?_
                with_reducible refine (dyad_Num_Same.calls k4 x895000_4 _ _ x895001_4 x895002_4 t907 _ _ t908 t911 true _ ?side1 ?side2 ?side3 ?side4 A91.out).mono ?_
                (case side1 => exact kvs HO_895001)
                (case side2 => exact (Kd.V_reads' HO_895001.out).2.1)
                (case side3 => exact ks HO910)
                (case side4 => exact (Kd.R_reads' HO910.out).2.1)
                rintro e w129 ⟨rfl, hb⟩
                refine ⟨_, rfl, ?_⟩
                have n0_ := Aside0.mk (Kd.V_below (kv HO_852001) hb)
                have n1_ := Aside0.mk (Kd.V_below (kv HO_853001) hb)
                have n2_ := Aside0.mk (Kd.V_below (kv HO_889001) hb)
                have n3_ := Aside0.mk (Kd.V_below (kv HO_895001) hb)
                have n4_ := Aside0.mk (Kd.V_below (kv HO904) hb)
                have n5_ := Aside0.mk (Kd.R_below (kr HO910) hb)
                have n6_ := Aside0.mk (blk_below (g := gb851) (o := .cells #[.bool t846, .slice Ao11 t847.length co11, .int .i64 t850] 26 (0, 0)) (kb BK851) hb)
                have n7_ := Aside0.mk (blk_below (g := gb852) (o := .cells #[.bool x853000_44, .slice Ao121 x853001_44.length co121, .int .i64 x853002_44] 26 (0, 0)) (kb BK852) hb)
                have n8_ := Aside0.mk (blk_below (g := gb888) (o := .cells #[.bool t883, .slice Ao67 t884.length co67, .int .i64 t887] 26 (0, 0)) (kb BK888) hb)
                have n9_ := Aside0.mk (blk_below (g := gb894) (o := .cells #[.bool x895000_4, .slice Ao127 x895001_4.length co127, .int .i64 x895002_4] 26 (0, 0)) (kb BK894) hb)
                have n10_ := Aside0.mk (below_step bes hb)
                clear HO_852001
                clear HO_853001
                clear HO_889001
                clear HO_895001
                clear HO904
                clear HO910
                clear BK851
                clear BK852
                clear BK888
                clear BK894
                clear HB
                have HO_852001 := n0_
                have HO_853001 := n1_
                have HO_889001 := n2_
                have HO_895001 := n3_
                have HO904 := n4_
                have HO910 := n5_
                have BK851 := n6_
                have BK852 := n7_
                have BK888 := n8_
                have BK894 := n9_
                have HB := n10_
                clear n0_ n1_ n2_ n3_ n4_ n5_ n6_ n7_ n8_ n9_ n10_
                (try clear hb)
                (try clear hb2)
                (try clear hk)
                (try clear hi)
                refine hK.out _ _ ⟨(blk_cell BK851.out 0).trans rfl, (blk_cell BK851.out 1).trans rfl, (blk_cell BK851.out 2).trans rfl, (blk_cell BK852.out 0).trans rfl, (blk_cell BK852.out 1).trans rfl, (blk_cell BK852.out 2).trans rfl, (blk_cell BK888.out 0).trans rfl, (blk_cell BK888.out 1).trans rfl, (blk_cell BK888.out 2).trans rfl, (blk_cell BK894.out 0).trans rfl, (blk_cell BK894.out 1).trans rfl, (blk_cell BK894.out 2).trans rfl⟩ (fun hHeld => ?_)
                clear hK K
                refine norm_ (a' := ?_) ?_ ?_
                rotate_left
                ·
                 show Act.put _ (some 74) _ = _
                 simp only [Act.put, sa0, sa1, sa2, i64_w, i32_w]
                 rfl
                refine pure_ (i := 14) (N := some 75) (v := ?_) (a' := ?_) #[true, true, true, true, true, true, true, true, true, true, true, true, true, true, true, false, false, false, false, false, false, false, false, false, false, false] rfl rfl (any_of HT_.out (by kernel_rfl)) (fun _ _ _ h => h) (Or.inl ⟨by rfl, ?_⟩) ?_ ?_
                rotate_left
                ·
                 intro w'
                 go_simp
                 with_reducible rfl
                rotate_left
                ·
                 simp only [Act.put, sa0, sa1, sa2, i64_w, i32_w]
                 rfl
                refine pure_ (i := 15) (N := some 76) (v := ?_) (a' := ?_) #[true, true, true, true, true, true, true, true, true, true, true, true, true, true, true, true, false, false, false, false, false, false, false, false, false, false] rfl rfl (any_of HT_.out (by kernel_rfl)) (fun _ _ _ h => h) (Or.inl ⟨by rfl, ?_⟩) ?_ ?_
                rotate_left
                ·
                 intro w'
                 go_simp
                 with_reducible rfl
                rotate_left
                ·
                 simp only [Act.put, sa0, sa1, sa2, i64_w, i32_w]
                 rfl
                refine one_ (i := 16) (N := some 77) #[true, true, true, true, true, true, true, true, true, true, true, true, true, true, true, true, true, false, false, false, false, false, false, false, false, false] rfl rfl (one_of HT_.out (by kernel_rfl)) (by decide) (fun K hK => ?_)
                refine goes_ Tryd.func27 (by kernel_rfl) rfl #[.int .i64 1099511627776] (by rfl) rfl rfl ga ?_
                with_reducible refine (dyad_Two.calls 1099511627776 t913 t914 t917 _ A93.out).mono ?_
                rintro e w130 ⟨v915, rfl, ho0, hb⟩
                refine ⟨_, rfl, ?_⟩
                have n0_ := Aside0.mk (Kd.V_elder' (kv HO_852001) (Kd.R_base ho0) hb)
                have n1_ := Aside0.mk (Kd.V_elder' (kv HO_853001) (Kd.R_base ho0) hb)
                have n2_ := Aside0.mk (Kd.V_elder' (kv HO_889001) (Kd.R_base ho0) hb)
                have n3_ := Aside0.mk (Kd.V_elder' (kv HO_895001) (Kd.R_base ho0) hb)
                have n4_ := Aside0.mk (Kd.V_elder' (kv HO904) (Kd.R_base ho0) hb)
                have n5_ := Aside0.mk (Kd.R_elder' (kr HO910) (Kd.R_base ho0) hb)
                have n6_ := Aside0.mk (Kd.R_lower (Kd.R_new' ho0 (Kd.R_lt (kr HO910))) (below_size bes))
                have n7_ := Aside0.mk (blk_below (g := gb851) (o := .cells #[.bool t846, .slice Ao11 t847.length co11, .int .i64 t850] 26 (0, 0)) (kb BK851) hb)
                have n8_ := Aside0.mk (blk_below (g := gb852) (o := .cells #[.bool x853000_44, .slice Ao121 x853001_44.length co121, .int .i64 x853002_44] 26 (0, 0)) (kb BK852) hb)
                have n9_ := Aside0.mk (blk_below (g := gb888) (o := .cells #[.bool t883, .slice Ao67 t884.length co67, .int .i64 t887] 26 (0, 0)) (kb BK888) hb)
                have n10_ := Aside0.mk (blk_below (g := gb894) (o := .cells #[.bool x895000_4, .slice Ao127 x895001_4.length co127, .int .i64 x895002_4] 26 (0, 0)) (kb BK894) hb)
                have n11_ := Aside0.mk (below_step bes hb)
                clear HO_852001
                clear HO_853001
                clear HO_889001
                clear HO_895001
                clear HO904
                clear HO910
                clear BK851
                clear BK852
                clear BK888
                clear BK894
                clear HB
                have HO_852001 := n0_
                have HO_853001 := n1_
                have HO_889001 := n2_
                have HO_895001 := n3_
                have HO904 := n4_
                have HO910 := n5_
                have HO916 := n6_
                have BK851 := n7_
                have BK852 := n8_
                have BK888 := n9_
                have BK894 := n10_
                have HB := n11_
                clear n0_ n1_ n2_ n3_ n4_ n5_ n6_ n7_ n8_ n9_ n10_ n11_
                (try clear hb)
                (try clear hb2)
                (try clear hk)
                (try clear hi)
                (try clear ho0)
                refine hK.out _ _ ⟨(blk_cell BK851.out 0).trans rfl, (blk_cell BK851.out 1).trans rfl, (blk_cell BK851.out 2).trans rfl, (blk_cell BK852.out 0).trans rfl, (blk_cell BK852.out 1).trans rfl, (blk_cell BK852.out 2).trans rfl, (blk_cell BK888.out 0).trans rfl, (blk_cell BK888.out 1).trans rfl, (blk_cell BK888.out 2).trans rfl, (blk_cell BK894.out 0).trans rfl, (blk_cell BK894.out 1).trans rfl, (blk_cell BK894.out 2).trans rfl⟩ (fun hHeld => ?_)
                clear hK K
                refine norm_ (a' := ?_) ?_ ?_
                rotate_left
                ·
                 show Act.put _ (some 77) _ = _
                 simp only [Act.put, sa0, sa1, sa2, i64_w, i32_w]
                 rfl
                refine one_ (i := 17) (N := some 78) #[true, true, true, true, true, true, true, true, true, true, true, true, true, true, true, true, true, true, false, false, false, false, false, false, false, false] rfl rfl (one_of HT_.out (by kernel_rfl)) (by decide) (fun K hK => ?_)
                refine goes_ Tryd.func27 (by kernel_rfl) rfl #[.int .i64 1048576] (by rfl) rfl rfl ga ?_
                with_reducible refine (dyad_Two.calls 1048576 t918 t919 t922 _ A94.out).mono ?_
                rintro e w131 ⟨v920, rfl, ho0, hb⟩
                refine ⟨_, rfl, ?_⟩
                have n0_ := Aside0.mk (Kd.V_elder' (kv HO_852001) (Kd.R_base ho0) hb)
                have n1_ := Aside0.mk (Kd.V_elder' (kv HO_853001) (Kd.R_base ho0) hb)
                have n2_ := Aside0.mk (Kd.V_elder' (kv HO_889001) (Kd.R_base ho0) hb)
                have n3_ := Aside0.mk (Kd.V_elder' (kv HO_895001) (Kd.R_base ho0) hb)
                have n4_ := Aside0.mk (Kd.V_elder' (kv HO904) (Kd.R_base ho0) hb)
                have n5_ := Aside0.mk (Kd.R_elder' (kr HO910) (Kd.R_base ho0) hb)
                have n6_ := Aside0.mk (Kd.R_elder' (kr HO916) (Kd.R_base ho0) hb)
                have n7_ := Aside0.mk (Kd.R_lower (Kd.R_new' (Kd.R_new' ho0 (Kd.R_lt (kr HO910))) (Kd.R_lt (kr HO916))) (below_size bes))
                have n8_ := Aside0.mk (blk_below (g := gb851) (o := .cells #[.bool t846, .slice Ao11 t847.length co11, .int .i64 t850] 26 (0, 0)) (kb BK851) hb)
                have n9_ := Aside0.mk (blk_below (g := gb852) (o := .cells #[.bool x853000_44, .slice Ao121 x853001_44.length co121, .int .i64 x853002_44] 26 (0, 0)) (kb BK852) hb)
                have n10_ := Aside0.mk (blk_below (g := gb888) (o := .cells #[.bool t883, .slice Ao67 t884.length co67, .int .i64 t887] 26 (0, 0)) (kb BK888) hb)
                have n11_ := Aside0.mk (blk_below (g := gb894) (o := .cells #[.bool x895000_4, .slice Ao127 x895001_4.length co127, .int .i64 x895002_4] 26 (0, 0)) (kb BK894) hb)
                have n12_ := Aside0.mk (below_step bes hb)
                clear HO_852001
                clear HO_853001
                clear HO_889001
                clear HO_895001
                clear HO904
                clear HO910
                clear HO916
                clear BK851
                clear BK852
                clear BK888
                clear BK894
                clear HB
                have HO_852001 := n0_
                have HO_853001 := n1_
                have HO_889001 := n2_
                have HO_895001 := n3_
                have HO904 := n4_
                have HO910 := n5_
                have HO916 := n6_
                have HO921 := n7_
                have BK851 := n8_
                have BK852 := n9_
                have BK888 := n10_
                have BK894 := n11_
                have HB := n12_
                clear n0_ n1_ n2_ n3_ n4_ n5_ n6_ n7_ n8_ n9_ n10_ n11_ n12_
                (try clear hb)
                (try clear hb2)
                (try clear hk)
                (try clear hi)
                (try clear ho0)
                obtain ⟨Ao132, co132, eo132⟩ := Kd.R_slice HO916.out
                (first | subst eo132 | (injection eo132 with f1_ f2_ f3_; have f4_ := f1_.symm; have f5_ := f3_.symm; clear f1_ f2_ f3_; subst f4_; subst f5_))
                obtain ⟨Ao133, co133, eo133⟩ := Kd.R_slice HO921.out
                (first | subst eo133 | (injection eo133 with f1_ f2_ f3_; have f4_ := f1_.symm; have f5_ := f3_.symm; clear f1_ f2_ f3_; subst f4_; subst f5_))
                refine hK.out _ _ ⟨(blk_cell BK851.out 0).trans rfl, (blk_cell BK851.out 1).trans rfl, (blk_cell BK851.out 2).trans rfl, (blk_cell BK852.out 0).trans rfl, (blk_cell BK852.out 1).trans rfl, (blk_cell BK852.out 2).trans rfl, (blk_cell BK888.out 0).trans rfl, (blk_cell BK888.out 1).trans rfl, (blk_cell BK888.out 2).trans rfl, (blk_cell BK894.out 0).trans rfl, (blk_cell BK894.out 1).trans rfl, (blk_cell BK894.out 2).trans rfl⟩ (fun hHeld => ?_)
                clear hK K
                refine norm_ (a' := ?_) ?_ ?_
                rotate_left
                ·
                 show Act.put _ (some 78) _ = _
                 simp only [Act.put, sa0, sa1, sa2, i64_w, i32_w]
                 rfl
                refine one_ (i := 18) (N := some 79) #[true, true, true, true, true, true, true, true, true, true, true, true, true, true, true, true, true, true, true, false, false, false, false, false, false, false] rfl rfl (one_of HT_.out (by kernel_rfl)) (by decide) (fun K hK => ?_)
                refine goes_ Tryd.func28 (by kernel_rfl) rfl #[.agg #[.bool t913, .slice Ao132 t914.length co132, .int .i64 t917], .agg #[.bool t918, .slice Ao133 t919.length co133, .int .i64 t922]] (by rfl) rfl rfl ga ?_
                with_reducible refine (dyad_Num_Same.calls k4 t913 _ _ t914 t917 t918 _ _ t919 t922 false _ ?side1 ?side2 ?side3 ?side4 A95.out).mono ?_
                (case side1 => exact ks HO916)
                (case side2 => exact (Kd.R_reads' HO916.out).2.1)
                (case side3 => exact ks HO921)
                (case side4 => exact (Kd.R_reads' HO921.out).2.1)
                rintro e w134 ⟨rfl, hb⟩
                refine ⟨_, rfl, ?_⟩
                have n0_ := Aside0.mk (Kd.V_below (kv HO_852001) hb)
                have n1_ := Aside0.mk (Kd.V_below (kv HO_853001) hb)
                have n2_ := Aside0.mk (Kd.V_below (kv HO_889001) hb)
                have n3_ := Aside0.mk (Kd.V_below (kv HO_895001) hb)
                have n4_ := Aside0.mk (Kd.V_below (kv HO904) hb)
                have n5_ := Aside0.mk (Kd.R_below (kr HO910) hb)
                have n6_ := Aside0.mk (Kd.R_below (kr HO916) hb)
                have n7_ := Aside0.mk (Kd.R_below (kr HO921) hb)
                have n8_ := Aside0.mk (blk_below (g := gb851) (o := .cells #[.bool t846, .slice Ao11 t847.length co11, .int .i64 t850] 26 (0, 0)) (kb BK851) hb)
                have n9_ := Aside0.mk (blk_below (g := gb852) (o := .cells #[.bool x853000_44, .slice Ao121 x853001_44.length co121, .int .i64 x853002_44] 26 (0, 0)) (kb BK852) hb)
                have n10_ := Aside0.mk (blk_below (g := gb888) (o := .cells #[.bool t883, .slice Ao67 t884.length co67, .int .i64 t887] 26 (0, 0)) (kb BK888) hb)
                have n11_ := Aside0.mk (blk_below (g := gb894) (o := .cells #[.bool x895000_4, .slice Ao127 x895001_4.length co127, .int .i64 x895002_4] 26 (0, 0)) (kb BK894) hb)
                have n12_ := Aside0.mk (below_step bes hb)
                clear HO_852001
                clear HO_853001
                clear HO_889001
                clear HO_895001
                clear HO904
                clear HO910
                clear HO916
                clear HO921
                clear BK851
                clear BK852
                clear BK888
                clear BK894
                clear HB
                have HO_852001 := n0_
                have HO_853001 := n1_
                have HO_889001 := n2_
                have HO_895001 := n3_
                have HO904 := n4_
                have HO910 := n5_
                have HO916 := n6_
                have HO921 := n7_
                have BK851 := n8_
                have BK852 := n9_
                have BK888 := n10_
                have BK894 := n11_
                have HB := n12_
                clear n0_ n1_ n2_ n3_ n4_ n5_ n6_ n7_ n8_ n9_ n10_ n11_ n12_
                (try clear hb)
                (try clear hb2)
                (try clear hk)
                (try clear hi)
                refine hK.out _ _ ⟨(blk_cell BK851.out 0).trans rfl, (blk_cell BK851.out 1).trans rfl, (blk_cell BK851.out 2).trans rfl, (blk_cell BK852.out 0).trans rfl, (blk_cell BK852.out 1).trans rfl, (blk_cell BK852.out 2).trans rfl, (blk_cell BK888.out 0).trans rfl, (blk_cell BK888.out 1).trans rfl, (blk_cell BK888.out 2).trans rfl, (blk_cell BK894.out 0).trans rfl, (blk_cell BK894.out 1).trans rfl, (blk_cell BK894.out 2).trans rfl⟩ (fun hHeld => ?_)
                clear hK K
                refine norm_ (a' := ?_) ?_ ?_
                rotate_left
                ·
                 show Act.put _ (some 79) _ = _
                 simp only [Act.put, sa0, sa1, sa2, i64_w, i32_w]
                 rfl
                refine pure_ (i := 19) (N := some 80) (v := ?_) (a' := ?_) #[true, true, true, true, true, true, true, true, true, true, true, true, true, true, true, true, true, true, true, true, false, false, false, false, false, false] rfl rfl (any_of HT_.out (by kernel_rfl)) (fun _ _ _ h => h) (Or.inl ⟨by rfl, ?_⟩) ?_ ?_
                rotate_left
                ·
                 intro w'
                 go_simp
                 with_reducible rfl
                rotate_left
                ·
                 simp only [Act.put, sa0, sa1, sa2, i64_w, i32_w]
                 rfl
                refine pure_ (i := 20) (N := some 81) (v := ?_) (a' := ?_) #[true, true, true, true, true, true, true, true, true, true, true, true, true, true, true, true, true, true, true, true, true, false, false, false, false, false] rfl rfl (any_of HT_.out (by kernel_rfl)) (fun _ _ _ h => h) (Or.inl ⟨by rfl, ?_⟩) ?_ ?_
                rotate_left
                ·
                 intro w'
                 go_simp
                 with_reducible rfl
                rotate_left
                ·
                 simp only [Act.put, sa0, sa1, sa2, i64_w, i32_w]
                 rfl
                refine pure_ (i := 21) (N := some 82) (v := undef) (a' := ?_) #[true, true, true, true, true, true, true, true, true, true, true, true, true, true, true, true, true, true, true, true, true, true, false, false, false, false] rfl rfl (any_of HT_.out (by kernel_rfl)) (fun _ _ _ h => h) (Or.inr ⟨by rfl, rfl⟩) ?_ ?_
                rotate_left
                ·
                 simp only [Act.put, sa0, sa1, sa2, i64_w, i32_w]
                 rfl
                refine pure_ (i := 22) (N := some 83) (v := undef) (a' := ?_) #[true, true, true, true, true, true, true, true, true, true, true, true, true, true, true, true, true, true, true, true, true, true, true, false, false, false] rfl rfl (any_of HT_.out (by kernel_rfl)) (fun _ _ _ h => h) (Or.inr ⟨by rfl, rfl⟩) ?_ ?_
                rotate_left
                ·
                 simp only [Act.put, sa0, sa1, sa2, i64_w, i32_w]
                 rfl
                refine pure_ (i := 23) (N := some 84) (v := undef) (a' := ?_) #[true, true, true, true, true, true, true, true, true, true, true, true, true, true, true, true, true, true, true, true, true, true, true, true, false, false] rfl rfl (any_of HT_.out (by kernel_rfl)) (fun _ _ _ h => h) (Or.inr ⟨by rfl, rfl⟩) ?_ ?_
                rotate_left
                ·
                 simp only [Act.put, sa0, sa1, sa2, i64_w, i32_w]
                 rfl
                refine pure_ (i := 24) (N := some 85) (v := ?_) (a' := ?_) #[true, true, true, true, true, true, true, true, true, true, true, true, true, true, true, true, true, true, true, true, true, true, true, true, true, false] rfl rfl (any_of HT_.out (by kernel_rfl)) (fun _ _ _ h => h) (Or.inl ⟨by rfl, ?_⟩) ?_ ?_
                rotate_left
                ·
                 intro w'
                 go_simp
                 with_reducible rfl
                rotate_left
                ·
                 simp only [Act.put, sa0, sa1, sa2, i64_w, i32_w]
                 rfl
                refine pure_ (i := 25) (N := some 4) (v := ?_) (a' := ?_) #[true, true, true, true, true, true, true, true, true, true, true, true, true, true, true, true, true, true, true, true, true, true, true, true, true, true] rfl rfl (any_of HT_.out (by kernel_rfl)) (fun _ _ _ h => h) (Or.inl ⟨by rfl, ?_⟩) ?_ ?_
                rotate_left
                ·
                 intro w'
                 go_simp
                 with_reducible rfl
                rotate_left
                ·
                 simp only [Act.put, sa0, sa1, sa2, i64_w, i32_w]
                 rfl
                refine done_ (done_of HT_.out (by kernel_rfl)) ?_
                try go_wp2
                go_ret
                exact ⟨er, bes⟩
              ·
               replace c92 := Bool.eq_false_iff.mpr c92
               subst c92
               rw [if_neg (show ¬ (false = true) by decide)] at H
               obtain rfl := Option.some.inj H
               try go_wp2
               have n0_ := Aside0.mk (Kd.V_drew HO_852001.out)
               have n1_ := Aside0.mk (Kd.V_drew HO_853001.out)
               have n2_ := Aside0.mk (Kd.V_drew HO_889001.out)
               have n3_ := Aside0.mk (Kd.V_drew HO_895001.out)
               have n4_ := Aside0.mk (blk_drew BK851.out)
               have n5_ := Aside0.mk (blk_drew BK852.out)
               have n6_ := Aside0.mk (blk_drew BK888.out)
               have n7_ := Aside0.mk (blk_drew BK894.out)
               have n8_ := Aside0.mk (below_drew1 HB.out)
               clear HO_852001
               clear HO_853001
               clear HO_889001
               clear HO_895001
               clear BK851
               clear BK852
               clear BK888
               clear BK894
               clear HB
               have HO_852001 := n0_
               have HO_853001 := n1_
               have HO_889001 := n2_
               have HO_895001 := n3_
               have BK851 := n4_
               have BK852 := n5_
               have BK888 := n6_
               have BK894 := n7_
               have HB := n8_
               clear n0_ n1_ n2_ n3_ n4_ n5_ n6_ n7_ n8_
               obtain ⟨Ao136, co136, eo136⟩ := Kd.V_slice HO_853001.out
               (first | subst eo136 | (injection eo136 with f1_ f2_ f3_; have f4_ := f1_.symm; have f5_ := f3_.symm; clear f1_ f2_ f3_; subst f4_; subst f5_))
               refine start_ (n := 26) (S := fun w' => w'.cell? ⟨gb851, 0, none⟩ = some (.bool t846) ∧ w'.cell? ⟨gb851, 1, none⟩ = some (.slice Ao11 t847.length co11) ∧ w'.cell? ⟨gb851, 2, none⟩ = some (.int .i64 t850) ∧ w'.cell? ⟨gb852, 0, none⟩ = some (.bool x853000_44) ∧ w'.cell? ⟨gb852, 1, none⟩ = some (.slice Ao136 x853001_44.length co136) ∧ w'.cell? ⟨gb852, 2, none⟩ = some (.int .i64 x853002_44) ∧ w'.cell? ⟨gb888, 0, none⟩ = some (.bool t883) ∧ w'.cell? ⟨gb888, 1, none⟩ = some (.slice Ao67 t884.length co67) ∧ w'.cell? ⟨gb888, 2, none⟩ = some (.int .i64 t887) ∧ w'.cell? ⟨gb894, 0, none⟩ = some (.bool x895000_4) ∧ w'.cell? ⟨gb894, 1, none⟩ = some (u895001) ∧ w'.cell? ⟨gb894, 2, none⟩ = some (.int .i64 x895002_4)) (ds := []) #[false, false, false, false, false, false, false, false, false, false, false, false, false, false, false, false, false, false, false, false, false, false, false, false, false, false] (by kernel_rfl) rfl rfl ⟨(blk_cell BK851.out 0).trans rfl, (blk_cell BK851.out 1).trans rfl, (blk_cell BK851.out 2).trans rfl, (blk_cell BK852.out 0).trans rfl, (blk_cell BK852.out 1).trans rfl, (blk_cell BK852.out 2).trans rfl, (blk_cell BK888.out 0).trans rfl, (blk_cell BK888.out 1).trans rfl, (blk_cell BK888.out 2).trans rfl, (blk_cell BK894.out 0).trans rfl, (blk_cell BK894.out 1).trans rfl, (blk_cell BK894.out 2).trans rfl⟩ (fun hHeld => ?_); refine with_tabW gimballaw07_DyadInts.tab23 gimballaw07_DyadInts.bits23 (fun HT_ HW_ => ?_)
               generalize wr.drew = w135 at HO_852001 HO_853001 HO_889001 HO_895001 BK851 BK852 BK888 BK894 HB hHeld ⊢
               refine take_ (i := 0) (N := some 61) (v := ?_) (a' := ?_) #[true, false, false, false, false, false, false, false, false, false, false, false, false, false, false, false, false, false, false, false, false, false, false, false, false, false] rfl rfl (take_ofW HT_.out HW_.out (by kernel_rfl)) (fun _ _ _ h => h) (Or.inl ⟨by rfl, ?_⟩) hHeld ?_ ?_
               rotate_left
               ·
                rintro w' ⟨s0, s1, s2, s3, s4, s5, s6, s7, s8, s9, s10, s11⟩
                go_simp
                with_reducible rfl
               rotate_left
               ·
                simp only [Act.put, sa0, sa1, sa2, i64_w, i32_w]
                rfl
               refine take_ (i := 1) (N := some 62) (v := ?_) (a' := ?_) #[true, true, false, false, false, false, false, false, false, false, false, false, false, false, false, false, false, false, false, false, false, false, false, false, false, false] rfl rfl (take_ofW HT_.out HW_.out (by kernel_rfl)) (fun _ _ _ h => h) (Or.inl ⟨by rfl, ?_⟩) hHeld ?_ ?_
               rotate_left
               ·
                rintro w' ⟨s0, s1, s2, s3, s4, s5, s6, s7, s8, s9, s10, s11⟩
                go_simp
                with_reducible rfl
               rotate_left
               ·
                simp only [Act.put, sa0, sa1, sa2, i64_w, i32_w]
                rfl
               refine one_ (i := 2) (N := some 63) #[true, true, true, false, false, false, false, false, false, false, false, false, false, false, false, false, false, false, false, false, false, false, false, false, false, false] rfl rfl (one_of HT_.out (by kernel_rfl)) (by decide) (fun K hK => ?_)
               refine goes_ Tryd.func28 (by kernel_rfl) rfl #[.agg #[.bool t846, .slice Ao11 t847.length co11, .int .i64 t850], .agg #[.bool x853000_44, .slice Ao136 x853001_44.length co136, .int .i64 x853002_44]] (by rfl) rfl rfl ga ?_
               with_reducible refine (dyad_Num_Same.calls k4 t846 _ _ t847 t850 x853000_44 _ _ x853001_44 x853002_44 true _ ?side1 ?side2 ?side3 ?side4 A85.out).mono ?_
               (case side1 => exact kvs HO_852001)
               (case side2 => exact (Kd.V_reads' HO_852001.out).2.1)
               (case side3 => exact kvs HO_853001)
               (case side4 => exact (Kd.V_reads' HO_853001.out).2.1)
               rintro e w137 ⟨rfl, hb⟩
               refine ⟨_, rfl, ?_⟩
               have n0_ := Aside0.mk (Kd.V_below (kv HO_852001) hb)
               have n1_ := Aside0.mk (Kd.V_below (kv HO_853001) hb)
               have n2_ := Aside0.mk (Kd.V_below (kv HO_889001) hb)
               have n3_ := Aside0.mk (Kd.V_below (kv HO_895001) hb)
               have n4_ := Aside0.mk (blk_below (g := gb851) (o := .cells #[.bool t846, .slice Ao11 t847.length co11, .int .i64 t850] 26 (0, 0)) (kb BK851) hb)
               have n5_ := Aside0.mk (blk_below (g := gb852) (o := .cells #[.bool x853000_44, .slice Ao136 x853001_44.length co136, .int .i64 x853002_44] 26 (0, 0)) (kb BK852) hb)
               have n6_ := Aside0.mk (blk_below (g := gb888) (o := .cells #[.bool t883, .slice Ao67 t884.length co67, .int .i64 t887] 26 (0, 0)) (kb BK888) hb)
               have n7_ := Aside0.mk (blk_below (g := gb894) (o := .cells #[.bool x895000_4, u895001, .int .i64 x895002_4] 26 (0, 0)) (kb BK894) hb)
               have n8_ := Aside0.mk (below_step bes hb)
               clear HO_852001
               clear HO_853001
               clear HO_889001
               clear HO_895001
               clear BK851
               clear BK852
               clear BK888
               clear BK894
               clear HB
               have HO_852001 := n0_
               have HO_853001 := n1_
               have HO_889001 := n2_
               have HO_895001 := n3_
               have BK851 := n4_
               have BK852 := n5_
               have BK888 := n6_
               have BK894 := n7_
               have HB := n8_
               clear n0_ n1_ n2_ n3_ n4_ n5_ n6_ n7_ n8_
               (try clear hb)
               (try clear hb2)
               (try clear hk)
               (try clear hi)
               refine hK.out _ _ ⟨(blk_cell BK851.out 0).trans rfl, (blk_cell BK851.out 1).trans rfl, (blk_cell BK851.out 2).trans rfl, (blk_cell BK852.out 0).trans rfl, (blk_cell BK852.out 1).trans rfl, (blk_cell BK852.out 2).trans rfl, (blk_cell BK888.out 0).trans rfl, (blk_cell BK888.out 1).trans rfl, (blk_cell BK888.out 2).trans rfl, (blk_cell BK894.out 0).trans rfl, (blk_cell BK894.out 1).trans rfl, (blk_cell BK894.out 2).trans rfl⟩ (fun hHeld => ?_)
               clear hK K
               refine norm_ (a' := ?_) ?_ ?_
               rotate_left
               ·
                show Act.put _ (some 63) _ = _
                simp only [Act.put, sa0, sa1, sa2, i64_w, i32_w]
                rfl
               refine pure_ (i := 3) (N := some 64) (v := ?_) (a' := ?_) #[true, true, true, true, false, false, false, false, false, false, false, false, false, false, false, false, false, false, false, false, false, false, false, false, false, false] rfl rfl (any_of HT_.out (by kernel_rfl)) (fun _ _ _ h => h) (Or.inl ⟨by rfl, ?_⟩) ?_ ?_
               rotate_left
               ·
                intro w'
                go_simp
                with_reducible rfl
               rotate_left
               ·
                simp only [Act.put, sa0, sa1, sa2, i64_w, i32_w]
                rfl
               refine take_ (i := 4) (N := some 65) (v := ?_) (a' := ?_) #[true, true, true, true, true, false, false, false, false, false, false, false, false, false, false, false, false, false, false, false, false, false, false, false, false, false] rfl rfl (take_ofW HT_.out HW_.out (by kernel_rfl)) (fun _ _ _ h => h) (Or.inl ⟨by rfl, ?_⟩) hHeld ?_ ?_
               rotate_left
               ·
                rintro w' ⟨s0, s1, s2, s3, s4, s5, s6, s7, s8, s9, s10, s11⟩
                go_simp
                with_reducible rfl
               rotate_left
               ·
                simp only [Act.put, sa0, sa1, sa2, i64_w, i32_w]
                rfl
               refine one_ (i := 5) (N := some 66) #[true, true, true, true, true, true, false, false, false, false, false, false, false, false, false, false, false, false, false, false, false, false, false, false, false, false] rfl rfl (one_of HT_.out (by kernel_rfl)) (by decide) (fun K hK => ?_)
               refine goes_ Tryd.func25 (by kernel_rfl) rfl #[.int .i64 1] (by rfl) rfl rfl ga ?_
               with_reducible refine (dyad_Int.calls k4 1 t901 t902 t905 _ ?side1 A87.out).mono ?_
               (case side1 => first | exact hT | exact TabW.drewN hT _ | exact TabW.drew hT | exact TabW.below hT bes)
               rintro e w138 ⟨v903, rfl, ho0, hb⟩
               refine ⟨_, rfl, ?_⟩
               have n0_ := Aside0.mk (Kd.V_below (kv HO_852001) hb)
               have n1_ := Aside0.mk (Kd.V_below (kv HO_853001) hb)
               have n2_ := Aside0.mk (Kd.V_below (kv HO_889001) hb)
               have n3_ := Aside0.mk (Kd.V_below (kv HO_895001) hb)
               have n4_ := Aside0.mk (Kd.V_lower (Kd.V_mono (ok' := fun k_ => k_ ≠ gb851 ∧ k_ ≠ gb852 ∧ k_ ≠ gb888 ∧ k_ ≠ gb894) ho0 (fun k_ hk_ => ⟨(Kd.freshB (g := gb851) (o := .cells #[.bool t846, .slice Ao11 t847.length co11, .int .i64 t850] 26 (0, 0)) (kb BK851) k_ hk_), (Kd.freshB (g := gb852) (o := .cells #[.bool x853000_44, .slice Ao136 x853001_44.length co136, .int .i64 x853002_44] 26 (0, 0)) (kb BK852) k_ hk_), (Kd.freshB (g := gb888) (o := .cells #[.bool t883, .slice Ao67 t884.length co67, .int .i64 t887] 26 (0, 0)) (kb BK888) k_ hk_), (Kd.freshB (g := gb894) (o := .cells #[.bool x895000_4, u895001, .int .i64 x895002_4] 26 (0, 0)) (kb BK894) k_ hk_)⟩)) (below_size bes))
               have n5_ := Aside0.mk (blk_below (g := gb851) (o := .cells #[.bool t846, .slice Ao11 t847.length co11, .int .i64 t850] 26 (0, 0)) (kb BK851) hb)
               have n6_ := Aside0.mk (blk_below (g := gb852) (o := .cells #[.bool x853000_44, .slice Ao136 x853001_44.length co136, .int .i64 x853002_44] 26 (0, 0)) (kb BK852) hb)
               have n7_ := Aside0.mk (blk_below (g := gb888) (o := .cells #[.bool t883, .slice Ao67 t884.length co67, .int .i64 t887] 26 (0, 0)) (kb BK888) hb)
               have n8_ := Aside0.mk (blk_below (g := gb894) (o := .cells #[.bool x895000_4, u895001, .int .i64 x895002_4] 26 (0, 0)) (kb BK894) hb)
               have n9_ := Aside0.mk (below_step bes hb)
               clear HO_852001
               clear HO_853001
               clear HO_889001
               clear HO_895001
               clear BK851
               clear BK852
               clear BK888
               clear BK894
               clear HB
               have HO_852001 := n0_
               have HO_853001 := n1_
               have HO_889001 := n2_
               have HO_895001 := n3_
               have HO904 := n4_
               have BK851 := n5_
               have BK852 := n6_
               have BK888 := n7_
               have BK894 := n8_
               have HB := n9_
               clear n0_ n1_ n2_ n3_ n4_ n5_ n6_ n7_ n8_ n9_
               (try clear hb)
               (try clear hb2)
               (try clear hk)
               (try clear hi)
               (try clear ho0)
               obtain ⟨Ao139, co139, eo139⟩ := Kd.V_slice HO904.out
               (first | subst eo139 | (injection eo139 with f1_ f2_ f3_; have f4_ := f1_.symm; have f5_ := f3_.symm; clear f1_ f2_ f3_; subst f4_; subst f5_))
               refine hK.out _ _ ⟨(blk_cell BK851.out 0).trans rfl, (blk_cell BK851.out 1).trans rfl, (blk_cell BK851.out 2).trans rfl, (blk_cell BK852.out 0).trans rfl, (blk_cell BK852.out 1).trans rfl, (blk_cell BK852.out 2).trans rfl, (blk_cell BK888.out 0).trans rfl, (blk_cell BK888.out 1).trans rfl, (blk_cell BK888.out 2).trans rfl, (blk_cell BK894.out 0).trans rfl, (blk_cell BK894.out 1).trans rfl, (blk_cell BK894.out 2).trans rfl⟩ (fun hHeld => ?_)
               clear hK K
               refine norm_ (a' := ?_) ?_ ?_
               rotate_left
               ·
                show Act.put _ (some 66) _ = _
                simp only [Act.put, sa0, sa1, sa2, i64_w, i32_w]
                rfl
               refine one_ (i := 6) (N := some 67) #[true, true, true, true, true, true, true, false, false, false, false, false, false, false, false, false, false, false, false, false, false, false, false, false, false, false] rfl rfl (one_of HT_.out (by kernel_rfl)) (by decide) (fun K hK => ?_)
               refine goes_ Tryd.func28 (by kernel_rfl) rfl #[.agg #[.bool t883, .slice Ao67 t884.length co67, .int .i64 t887], .agg #[.bool t901, .slice Ao139 t902.length co139, .int .i64 t905]] (by rfl) rfl rfl ga ?_
               with_reducible refine (dyad_Num_Same.calls k4 t883 _ _ t884 t887 t901 _ _ t902 t905 true _ ?side1 ?side2 ?side3 ?side4 A88.out).mono ?_
               (case side1 => exact kvs HO_889001)
               (case side2 => exact (Kd.V_reads' HO_889001.out).2.1)
               (case side3 => exact kvs HO904)
               (case side4 => exact (Kd.V_reads' HO904.out).2.1)
               rintro e w140 ⟨rfl, hb⟩
               refine ⟨_, rfl, ?_⟩
               have n0_ := Aside0.mk (Kd.V_below (kv HO_852001) hb)
               have n1_ := Aside0.mk (Kd.V_below (kv HO_853001) hb)
               have n2_ := Aside0.mk (Kd.V_below (kv HO_889001) hb)
               have n3_ := Aside0.mk (Kd.V_below (kv HO_895001) hb)
               have n4_ := Aside0.mk (Kd.V_below (kv HO904) hb)
               have n5_ := Aside0.mk (blk_below (g := gb851) (o := .cells #[.bool t846, .slice Ao11 t847.length co11, .int .i64 t850] 26 (0, 0)) (kb BK851) hb)
               have n6_ := Aside0.mk (blk_below (g := gb852) (o := .cells #[.bool x853000_44, .slice Ao136 x853001_44.length co136, .int .i64 x853002_44] 26 (0, 0)) (kb BK852) hb)
               have n7_ := Aside0.mk (blk_below (g := gb888) (o := .cells #[.bool t883, .slice Ao67 t884.length co67, .int .i64 t887] 26 (0, 0)) (kb BK888) hb)
               have n8_ := Aside0.mk (blk_below (g := gb894) (o := .cells #[.bool x895000_4, u895001, .int .i64 x895002_4] 26 (0, 0)) (kb BK894) hb)
               have n9_ := Aside0.mk (below_step bes hb)
               clear HO_852001
               clear HO_853001
               clear HO_889001
               clear HO_895001
               clear HO904
               clear BK851
               clear BK852
               clear BK888
               clear BK894
               clear HB
               have HO_852001 := n0_
               have HO_853001 := n1_
               have HO_889001 := n2_
               have HO_895001 := n3_
               have HO904 := n4_
               have BK851 := n5_
               have BK852 := n6_
               have BK888 := n7_
               have BK894 := n8_
               have HB := n9_
               clear n0_ n1_ n2_ n3_ n4_ n5_ n6_ n7_ n8_ n9_
               (try clear hb)
               (try clear hb2)
               (try clear hk)
               (try clear hi)
               refine hK.out _ _ ⟨(blk_cell BK851.out 0).trans rfl, (blk_cell BK851.out 1).trans rfl, (blk_cell BK851.out 2).trans rfl, (blk_cell BK852.out 0).trans rfl, (blk_cell BK852.out 1).trans rfl, (blk_cell BK852.out 2).trans rfl, (blk_cell BK888.out 0).trans rfl, (blk_cell BK888.out 1).trans rfl, (blk_cell BK888.out 2).trans rfl, (blk_cell BK894.out 0).trans rfl, (blk_cell BK894.out 1).trans rfl, (blk_cell BK894.out 2).trans rfl⟩ (fun hHeld => ?_)
               clear hK K
               refine norm_ (a' := ?_) ?_ ?_
               rotate_left
               ·
                show Act.put _ (some 67) _ = _
                simp only [Act.put, sa0, sa1, sa2, i64_w, i32_w]
                rfl
               refine pure_ (i := 7) (N := some 68) (v := ?_) (a' := ?_) #[true, true, true, true, true, true, true, true, false, false, false, false, false, false, false, false, false, false, false, false, false, false, false, false, false, false] rfl rfl (any_of HT_.out (by kernel_rfl)) (fun _ _ _ h => h) (Or.inl ⟨by rfl, ?_⟩) ?_ ?_
               rotate_left
               ·
                intro w'
                go_simp
                with_reducible rfl
               rotate_left
               ·
                simp only [Act.put, sa0, sa1, sa2, i64_w, i32_w]
                rfl
               refine pure_ (i := 8) (N := some 69) (v := ?_) (a' := ?_) #[true, true, true, true, true, true, true, true, true, false, false, false, false, false, false, false, false, false, false, false, false, false, false, false, false, false] rfl rfl (any_of HT_.out (by kernel_rfl)) (fun _ _ _ h => h) (Or.inl ⟨by rfl, ?_⟩) ?_ ?_
               rotate_left
               ·
                intro w'
                go_simp
                with_reducible rfl
               rotate_left
               ·
                simp only [Act.put, sa0, sa1, sa2, i64_w, i32_w]
                rfl
               refine pure_ (i := 10) (N := some 71) (v := ?_) (a' := ?_) #[true, true, true, true, true, true, true, true, true, false, true, false, false, false, false, false, false, false, false, false, false, false, false, false, false, false] rfl rfl (any_of HT_.out (by kernel_rfl)) (fun _ _ _ h => h) (Or.inl ⟨by rfl, ?_⟩) ?_ ?_
               rotate_left
               ·
                intro w'
                go_simp
                with_reducible rfl
               rotate_left
               ·
                simp only [Act.put, sa0, sa1, sa2, i64_w, i32_w]
                rfl
               refine pure_ (i := 11) (N := some 72) (v := ?_) (a' := ?_) #[true, true, true, true, true, true, true, true, true, false, true, true, false, false, false, false, false, false, false, false, false, false, false, false, false, false] rfl rfl (any_of HT_.out (by kernel_rfl)) (fun _ _ _ h => h) (Or.inl ⟨by rfl, ?_⟩) ?_ ?_
               rotate_left
               ·
                intro w'
                go_simp
                with_reducible rfl
               rotate_left
               ·
                simp only [Act.put, sa0, sa1, sa2, i64_w, i32_w]
                rfl
               refine take_ (i := 9) (N := some 70) (v := ?_) (a' := ?_) #[true, true, true, true, true, true, true, true, true, true, true, true, false, false, false, false, false, false, false, false, false, false, false, false, false, false] rfl rfl (take_ofW HT_.out HW_.out (by kernel_rfl)) (fun _ _ _ h => h) (Or.inl ⟨by rfl, ?_⟩) hHeld ?_ ?_
               rotate_left
               ·
                rintro w' ⟨s0, s1, s2, s3, s4, s5, s6, s7, s8, s9, s10, s11⟩
                go_simp
                with_reducible rfl
               rotate_left
               ·
                simp only [Act.put, sa0, sa1, sa2, i64_w, i32_w]
                rfl
               refine one_ (i := 12) (N := some 73) #[true, true, true, true, true, true, true, true, true, true, true, true, true, false, false, false, false, false, false, false, false, false, false, false, false, false] rfl rfl (one_of HT_.out (by kernel_rfl)) (by decide) (fun K hK => ?_)
               refine goes_ Tryd.func27 (by kernel_rfl) rfl #[.int .i64 (Go.bits .and .i64 (Go.bits .and .i64 a1 1023) 31)] (by rfl) rfl rfl ga ?_
               with_reducible refine (dyad_Two.calls (Go.bits .and .i64 (Go.bits .and .i64 a1 1023) 31) t907 t908 t911 _ A90.out).mono ?_
               rintro e w141 ⟨v909, rfl, ho0, hb⟩
               refine ⟨_, rfl, ?_⟩
               have n0_ := Aside0.mk (Kd.V_elder' (kv HO_852001) (Kd.R_base ho0) hb)
               have n1_ := Aside0.mk (Kd.V_elder' (kv HO_853001) (Kd.R_base ho0) hb)
               have n2_ := Aside0.mk (Kd.V_elder' (kv HO_889001) (Kd.R_base ho0) hb)
               have n3_ := Aside0.mk (Kd.V_elder' (kv HO_895001) (Kd.R_base ho0) hb)
               have n4_ := Aside0.mk (Kd.V_elder' (kv HO904) (Kd.R_base ho0) hb)
               have n5_ := Aside0.mk (Kd.R_lower ho0 (below_size bes))
               have n6_ := Aside0.mk (blk_below (g := gb851) (o := .cells #[.bool t846, .slice Ao11 t847.length co11, .int .i64 t850] 26 (0, 0)) (kb BK851) hb)
               have n7_ := Aside0.mk (blk_below (g := gb852) (o := .cells #[.bool x853000_44, .slice Ao136 x853001_44.length co136, .int .i64 x853002_44] 26 (0, 0)) (kb BK852) hb)
               have n8_ := Aside0.mk (blk_below (g := gb888) (o := .cells #[.bool t883, .slice Ao67 t884.length co67, .int .i64 t887] 26 (0, 0)) (kb BK888) hb)
               have n9_ := Aside0.mk (blk_below (g := gb894) (o := .cells #[.bool x895000_4, u895001, .int .i64 x895002_4] 26 (0, 0)) (kb BK894) hb)
               have n10_ := Aside0.mk (below_step bes hb)
               clear HO_852001
               clear HO_853001
               clear HO_889001
               clear HO_895001
               clear HO904
               clear BK851
               clear BK852
               clear BK888
               clear BK894
               clear HB
               have HO_852001 := n0_
               have HO_853001 := n1_
               have HO_889001 := n2_
               have HO_895001 := n3_
               have HO904 := n4_
               have HO910 := n5_
               have BK851 := n6_
               have BK852 := n7_
               have BK888 := n8_
               have BK894 := n9_
               have HB := n10_
               clear n0_ n1_ n2_ n3_ n4_ n5_ n6_ n7_ n8_ n9_ n10_
               (try clear hb)
               (try clear hb2)
               (try clear hk)
               (try clear hi)
               (try clear ho0)
               obtain ⟨Ao142, co142, eo142⟩ := Kd.V_slice HO_895001.out
               (first | subst eo142 | (injection eo142 with f1_ f2_ f3_; have f4_ := f1_.symm; have f5_ := f3_.symm; clear f1_ f2_ f3_; subst f4_; subst f5_))
               obtain ⟨Ao143, co143, eo143⟩ := Kd.R_slice HO910.out
               (first | subst eo143 | (injection eo143 with f1_ f2_ f3_; have f4_ := f1_.symm; have f5_ := f3_.symm; clear f1_ f2_ f3_; subst f4_; subst f5_))
               refine hK.out _ _ ⟨(blk_cell BK851.out 0).trans rfl, (blk_cell BK851.out 1).trans rfl, (blk_cell BK851.out 2).trans rfl, (blk_cell BK852.out 0).trans rfl, (blk_cell BK852.out 1).trans rfl, (blk_cell BK852.out 2).trans rfl, (blk_cell BK888.out 0).trans rfl, (blk_cell BK888.out 1).trans rfl, (blk_cell BK888.out 2).trans rfl, (blk_cell BK894.out 0).trans rfl, (blk_cell BK894.out 1).trans rfl, (blk_cell BK894.out 2).trans rfl⟩ (fun hHeld => ?_)
               clear hK K
               refine norm_ (a' := ?_) ?_ ?_
               rotate_left
               ·
                show Act.put _ (some 73) _ = _
                simp only [Act.put, sa0, sa1, sa2, i64_w, i32_w]
                rfl
               refine one_ (i := 13) (N := some 74) #[true, true, true, true, true, true, true, true, true, true, true, true, true, true, false, false, false, false, false, false, false, false, false, false, false, false] rfl rfl (one_of HT_.out (by kernel_rfl)) (by decide) (fun K hK => ?_)
               refine goes_ Tryd.func28 (by kernel_rfl) rfl #[.agg #[.bool x895000_4, .slice Ao142 x895001_4.length co142, .int .i64 x895002_4], .agg #[.bool t907, .slice Ao143 t908.length co143, .int .i64 t911]] (by rfl) rfl rfl ga ?_
               with_reducible refine (dyad_Num_Same.calls k4 x895000_4 _ _ x895001_4 x895002_4 t907 _ _ t908 t911 false _ ?side1 ?side2 ?side3 ?side4 A91.out).mono ?_
               (case side1 => exact kvs HO_895001)
               (case side2 => exact (Kd.V_reads' HO_895001.out).2.1)
               (case side3 => exact ks HO910)
               (case side4 => exact (Kd.R_reads' HO910.out).2.1)
               rintro e w144 ⟨rfl, hb⟩
               refine ⟨_, rfl, ?_⟩
               have n0_ := Aside0.mk (Kd.V_below (kv HO_852001) hb)
               have n1_ := Aside0.mk (Kd.V_below (kv HO_853001) hb)
               have n2_ := Aside0.mk (Kd.V_below (kv HO_889001) hb)
               have n3_ := Aside0.mk (Kd.V_below (kv HO_895001) hb)
               have n4_ := Aside0.mk (Kd.V_below (kv HO904) hb)
               have n5_ := Aside0.mk (Kd.R_below (kr HO910) hb)
               have n6_ := Aside0.mk (blk_below (g := gb851) (o := .cells #[.bool t846, .slice Ao11 t847.length co11, .int .i64 t850] 26 (0, 0)) (kb BK851) hb)
               have n7_ := Aside0.mk (blk_below (g := gb852) (o := .cells #[.bool x853000_44, .slice Ao136 x853001_44.length co136, .int .i64 x853002_44] 26 (0, 0)) (kb BK852) hb)
               have n8_ := Aside0.mk (blk_below (g := gb888) (o := .cells #[.bool t883, .slice Ao67 t884.length co67, .int .i64 t887] 26 (0, 0)) (kb BK888) hb)
               have n9_ := Aside0.mk (blk_below (g := gb894) (o := .cells #[.bool x895000_4, .slice Ao142 x895001_4.length co142, .int .i64 x895002_4] 26 (0, 0)) (kb BK894) hb)
               have n10_ := Aside0.mk (below_step bes hb)
               clear HO_852001
               clear HO_853001
               clear HO_889001
               clear HO_895001
               clear HO904
               clear HO910
               clear BK851
               clear BK852
               clear BK888
               clear BK894
               clear HB
               have HO_852001 := n0_
               have HO_853001 := n1_
               have HO_889001 := n2_
               have HO_895001 := n3_
               have HO904 := n4_
               have HO910 := n5_
               have BK851 := n6_
               have BK852 := n7_
               have BK888 := n8_
               have BK894 := n9_
               have HB := n10_
               clear n0_ n1_ n2_ n3_ n4_ n5_ n6_ n7_ n8_ n9_ n10_
               (try clear hb)
               (try clear hb2)
               (try clear hk)
               (try clear hi)
               refine hK.out _ _ ⟨(blk_cell BK851.out 0).trans rfl, (blk_cell BK851.out 1).trans rfl, (blk_cell BK851.out 2).trans rfl, (blk_cell BK852.out 0).trans rfl, (blk_cell BK852.out 1).trans rfl, (blk_cell BK852.out 2).trans rfl, (blk_cell BK888.out 0).trans rfl, (blk_cell BK888.out 1).trans rfl, (blk_cell BK888.out 2).trans rfl, (blk_cell BK894.out 0).trans rfl, (blk_cell BK894.out 1).trans rfl, (blk_cell BK894.out 2).trans rfl⟩ (fun hHeld => ?_)
               clear hK K
               refine norm_ (a' := ?_) ?_ ?_
               rotate_left
               ·
                show Act.put _ (some 74) _ = _
                simp only [Act.put, sa0, sa1, sa2, i64_w, i32_w]
                rfl
               refine pure_ (i := 14) (N := some 75) (v := ?_) (a' := ?_) #[true, true, true, true, true, true, true, true, true, true, true, true, true, true, true, false, false, false, false, false, false, false, false, false, false, false] rfl rfl (any_of HT_.out (by kernel_rfl)) (fun _ _ _ h => h) (Or.inl ⟨by rfl, ?_⟩) ?_ ?_
               rotate_left
               ·
                intro w'
                go_simp
                with_reducible rfl
               rotate_left
               ·
                simp only [Act.put, sa0, sa1, sa2, i64_w, i32_w]
                rfl
               refine pure_ (i := 15) (N := some 76) (v := ?_) (a' := ?_) #[true, true, true, true, true, true, true, true, true, true, true, true, true, true, true, true, false, false, false, false, false, false, false, false, false, false] rfl rfl (any_of HT_.out (by kernel_rfl)) (fun _ _ _ h => h) (Or.inl ⟨by rfl, ?_⟩) ?_ ?_
               rotate_left
               ·
                intro w'
                go_simp
                with_reducible rfl
               rotate_left
               ·
                simp only [Act.put, sa0, sa1, sa2, i64_w, i32_w]
                rfl
               refine pure_ (i := 16) (N := some 77) (v := undef) (a' := ?_) #[true, true, true, true, true, true, true, true, true, true, true, true, true, true, true, true, true, false, false, false, false, false, false, false, false, false] rfl rfl (any_of HT_.out (by kernel_rfl)) (fun _ _ _ h => h) (Or.inr ⟨by rfl, rfl⟩) ?_ ?_
               rotate_left
               ·
                simp only [Act.put, sa0, sa1, sa2, i64_w, i32_w]
                rfl
               refine pure_ (i := 17) (N := some 78) (v := undef) (a' := ?_) #[true, true, true, true, true, true, true, true, true, true, true, true, true, true, true, true, true, true, false, false, false, false, false, false, false, false] rfl rfl (any_of HT_.out (by kernel_rfl)) (fun _ _ _ h => h) (Or.inr ⟨by rfl, rfl⟩) ?_ ?_
               rotate_left
               ·
                simp only [Act.put, sa0, sa1, sa2, i64_w, i32_w]
                rfl
               refine pure_ (i := 18) (N := some 79) (v := undef) (a' := ?_) #[true, true, true, true, true, true, true, true, true, true, true, true, true, true, true, true, true, true, true, false, false, false, false, false, false, false] rfl rfl (any_of HT_.out (by kernel_rfl)) (fun _ _ _ h => h) (Or.inr ⟨by rfl, rfl⟩) ?_ ?_
               rotate_left
               ·
                simp only [Act.put, sa0, sa1, sa2, i64_w, i32_w]
                rfl
               refine pure_ (i := 19) (N := some 80) (v := ?_) (a' := ?_) #[true, true, true, true, true, true, true, true, true, true, true, true, true, true, true, true, true, true, true, true, false, false, false, false, false, false] rfl rfl (any_of HT_.out (by kernel_rfl)) (fun _ _ _ h => h) (Or.inl ⟨by rfl, ?_⟩) ?_ ?_
               rotate_left
               ·
                intro w'
                go_simp
                with_reducible rfl
               rotate_left
               ·
                simp only [Act.put, sa0, sa1, sa2, i64_w, i32_w]
                rfl
               refine pure_ (i := 20) (N := some 81) (v := ?_) (a' := ?_) #[true, true, true, true, true, true, true, true, true, true, true, true, true, true, true, true, true, true, true, true, true, false, false, false, false, false] rfl rfl (any_of HT_.out (by kernel_rfl)) (fun _ _ _ h => h) (Or.inl ⟨by rfl, ?_⟩) ?_ ?_
               rotate_left
               ·
                intro w'
                go_simp
                with_reducible rfl
               rotate_left
               ·
                simp only [Act.put, sa0, sa1, sa2, i64_w, i32_w]
                rfl
               refine pure_ (i := 21) (N := some 82) (v := undef) (a' := ?_) #[true, true, true, true, true, true, true, true, true, true, true, true, true, true, true, true, true, true, true, true, true, true, false, false, false, false] rfl rfl (any_of HT_.out (by kernel_rfl)) (fun _ _ _ h => h) (Or.inr ⟨by rfl, rfl⟩) ?_ ?_
               rotate_left
               ·
                simp only [Act.put, sa0, sa1, sa2, i64_w, i32_w]
                rfl
               refine pure_ (i := 22) (N := some 83) (v := undef) (a' := ?_) #[true, true, true, true, true, true, true, true, true, true, true, true, true, true, true, true, true, true, true, true, true, true, true, false, false, false] rfl rfl (any_of HT_.out (by kernel_rfl)) (fun _ _ _ h => h) (Or.inr ⟨by rfl, rfl⟩) ?_ ?_
               rotate_left
               ·
                simp only [Act.put, sa0, sa1, sa2, i64_w, i32_w]
                rfl
               refine pure_ (i := 23) (N := some 84) (v := undef) (a' := ?_) #[true, true, true, true, true, true, true, true, true, true, true, true, true, true, true, true, true, true, true, true, true, true, true, true, false, false] rfl rfl (any_of HT_.out (by kernel_rfl)) (fun _ _ _ h => h) (Or.inr ⟨by rfl, rfl⟩) ?_ ?_
               rotate_left
               ·
                simp only [Act.put, sa0, sa1, sa2, i64_w, i32_w]
                rfl
               refine pure_ (i := 24) (N := some 85) (v := ?_) (a' := ?_) #[true, true, true, true, true, true, true, true, true, true, true, true, true, true, true, true, true, true, true, true, true, true, true, true, true, false] rfl rfl (any_of HT_.out (by kernel_rfl)) (fun _ _ _ h => h) (Or.inl ⟨by rfl, ?_⟩) ?_ ?_
               rotate_left
               ·
                intro w'
                go_simp
                with_reducible rfl
               rotate_left
               ·
                simp only [Act.put, sa0, sa1, sa2, i64_w, i32_w]
                rfl
               refine pure_ (i := 25) (N := some 4) (v := ?_) (a' := ?_) #[true, true, true, true, true, true, true, true, true, true, true, true, true, true, true, true, true, true, true, true, true, true, true, true, true, true] rfl rfl (any_of HT_.out (by kernel_rfl)) (fun _ _ _ h => h) (Or.inl ⟨by rfl, ?_⟩) ?_ ?_
               rotate_left
               ·
                intro w'
                go_simp
                with_reducible rfl
               rotate_left
               ·
                simp only [Act.put, sa0, sa1, sa2, i64_w, i32_w]
                rfl
               refine done_ (done_of HT_.out (by kernel_rfl)) ?_
               try go_wp2
               go_ret
               exact ⟨er, bes⟩
             ·
              replace c89 := Bool.eq_false_iff.mpr c89
              subst c89
              rw [if_neg (show ¬ (false = true) by decide)] at H
              obtain rfl := Option.some.inj H
              try go_wp2
              have n0_ := Aside0.mk (Kd.V_drew HO_852001.out)
              have n1_ := Aside0.mk (Kd.V_drew HO_853001.out)
              have n2_ := Aside0.mk (Kd.V_drew HO_889001.out)
              have n3_ := Aside0.mk (Kd.V_drew HO_895001.out)
              have n4_ := Aside0.mk (blk_drew BK851.out)
              have n5_ := Aside0.mk (blk_drew BK852.out)
              have n6_ := Aside0.mk (blk_drew BK888.out)
              have n7_ := Aside0.mk (blk_drew BK894.out)
              have n8_ := Aside0.mk (below_drew1 HB.out)
              clear HO_852001
              clear HO_853001
              clear HO_889001
              clear HO_895001
              clear BK851
              clear BK852
              clear BK888
              clear BK894
              clear HB
              have HO_852001 := n0_
              have HO_853001 := n1_
              have HO_889001 := n2_
              have HO_895001 := n3_
              have BK851 := n4_
              have BK852 := n5_
              have BK888 := n6_
              have BK894 := n7_
              have HB := n8_
              clear n0_ n1_ n2_ n3_ n4_ n5_ n6_ n7_ n8_
              obtain ⟨Ao146, co146, eo146⟩ := Kd.V_slice HO_853001.out
              (first | subst eo146 | (injection eo146 with f1_ f2_ f3_; have f4_ := f1_.symm; have f5_ := f3_.symm; clear f1_ f2_ f3_; subst f4_; subst f5_))
              refine start_ (n := 26) (S := fun w' => w'.cell? ⟨gb851, 0, none⟩ = some (.bool t846) ∧ w'.cell? ⟨gb851, 1, none⟩ = some (.slice Ao11 t847.length co11) ∧ w'.cell? ⟨gb851, 2, none⟩ = some (.int .i64 t850) ∧ w'.cell? ⟨gb852, 0, none⟩ = some (.bool x853000_44) ∧ w'.cell? ⟨gb852, 1, none⟩ = some (.slice Ao146 x853001_44.length co146) ∧ w'.cell? ⟨gb852, 2, none⟩ = some (.int .i64 x853002_44) ∧ w'.cell? ⟨gb888, 0, none⟩ = some (.bool t883) ∧ w'.cell? ⟨gb888, 1, none⟩ = some (.slice Ao67 t884.length co67) ∧ w'.cell? ⟨gb888, 2, none⟩ = some (.int .i64 t887)) (ds := []) #[false, false, false, false, false, false, false, false, false, false, false, false, false, false, false, false, false, false, false, false, false, false, false, false, false, false] (by kernel_rfl) rfl rfl ⟨(blk_cell BK851.out 0).trans rfl, (blk_cell BK851.out 1).trans rfl, (blk_cell BK851.out 2).trans rfl, (blk_cell BK852.out 0).trans rfl, (blk_cell BK852.out 1).trans rfl, (blk_cell BK852.out 2).trans rfl, (blk_cell BK888.out 0).trans rfl, (blk_cell BK888.out 1).trans rfl, (blk_cell BK888.out 2).trans rfl⟩ (fun hHeld => ?_); refine with_tabW gimballaw07_DyadInts.tab23 gimballaw07_DyadInts.bits23 (fun HT_ HW_ => ?_)
              generalize wr.drew = w145 at HO_852001 HO_853001 HO_889001 HO_895001 BK851 BK852 BK888 BK894 HB hHeld ⊢
              refine take_ (i := 0) (N := some 61) (v := ?_) (a' := ?_) #[true, false, false, false, false, false, false, false, false, false, false, false, false, false, false, false, false, false, false, false, false, false, false, false, false, false] rfl rfl (take_ofW HT_.out HW_.out (by kernel_rfl)) (fun _ _ _ h => h) (Or.inl ⟨by rfl, ?_⟩) hHeld ?_ ?_
              rotate_left
              ·
               rintro w' ⟨s0, s1, s2, s3, s4, s5, s6, s7, s8⟩
               go_simp
               with_reducible rfl
              rotate_left
              ·
               simp only [Act.put, sa0, sa1, sa2, i64_w, i32_w]
               rfl
              refine take_ (i := 1) (N := some 62) (v := ?_) (a' := ?_) #[true, true, false, false, false, false, false, false, false, false, false, false, false, false, false, false, false, false, false, false, false, false, false, false, false, false] rfl rfl (take_ofW HT_.out HW_.out (by kernel_rfl)) (fun _ _ _ h => h) (Or.inl ⟨by rfl, ?_⟩) hHeld ?_ ?_
              rotate_left
              ·
               rintro w' ⟨s0, s1, s2, s3, s4, s5, s6, s7, s8⟩
               go_simp
               with_reducible rfl
              rotate_left
              ·
               simp only [Act.put, sa0, sa1, sa2, i64_w, i32_w]
               rfl
              refine one_ (i := 2) (N := some 63) #[true, true, true, false, false, false, false, false, false, false, false, false, false, false, false, false, false, false, false, false, false, false, false, false, false, false] rfl rfl (one_of HT_.out (by kernel_rfl)) (by decide) (fun K hK => ?_)
              refine goes_ Tryd.func28 (by kernel_rfl) rfl #[.agg #[.bool t846, .slice Ao11 t847.length co11, .int .i64 t850], .agg #[.bool x853000_44, .slice Ao146 x853001_44.length co146, .int .i64 x853002_44]] (by rfl) rfl rfl ga ?_
              with_reducible refine (dyad_Num_Same.calls k4 t846 _ _ t847 t850 x853000_44 _ _ x853001_44 x853002_44 true _ ?side1 ?side2 ?side3 ?side4 A85.out).mono ?_
              (case side1 => exact kvs HO_852001)
              (case side2 => exact (Kd.V_reads' HO_852001.out).2.1)
              (case side3 => exact kvs HO_853001)
              (case side4 => exact (Kd.V_reads' HO_853001.out).2.1)
              rintro e w147 ⟨rfl, hb⟩
              refine ⟨_, rfl, ?_⟩
              have n0_ := Aside0.mk (Kd.V_below (kv HO_852001) hb)
              have n1_ := Aside0.mk (Kd.V_below (kv HO_853001) hb)
              have n2_ := Aside0.mk (Kd.V_below (kv HO_889001) hb)
              have n3_ := Aside0.mk (Kd.V_below (kv HO_895001) hb)
              have n4_ := Aside0.mk (blk_below (g := gb851) (o := .cells #[.bool t846, .slice Ao11 t847.length co11, .int .i64 t850] 26 (0, 0)) (kb BK851) hb)
              have n5_ := Aside0.mk (blk_below (g := gb852) (o := .cells #[.bool x853000_44, .slice Ao146 x853001_44.length co146, .int .i64 x853002_44] 26 (0, 0)) (kb BK852) hb)
              have n6_ := Aside0.mk (blk_below (g := gb888) (o := .cells #[.bool t883, .slice Ao67 t884.length co67, .int .i64 t887] 26 (0, 0)) (kb BK888) hb)
              have n7_ := Aside0.mk (blk_below (g := gb894) (o := .cells #[.bool x895000_4, u895001, .int .i64 x895002_4] 26 (0, 0)) (kb BK894) hb)
              have n8_ := Aside0.mk (below_step bes hb)
              clear HO_852001
              clear HO_853001
              clear HO_889001
              clear HO_895001
              clear BK851
              clear BK852
              clear BK888
              clear BK894
              clear HB
              have HO_852001 := n0_
              have HO_853001 := n1_
              have HO_889001 := n2_
              have HO_895001 := n3_
              have BK851 := n4_
              have BK852 := n5_
              have BK888 := n6_
              have BK894 := n7_
              have HB := n8_
              clear n0_ n1_ n2_ n3_ n4_ n5_ n6_ n7_ n8_
              (try clear hb)
              (try clear hb2)
              (try clear hk)
              (try clear hi)
              refine hK.out _ _ ⟨(blk_cell BK851.out 0).trans rfl, (blk_cell BK851.out 1).trans rfl, (blk_cell BK851.out 2).trans rfl, (blk_cell BK852.out 0).trans rfl, (blk_cell BK852.out 1).trans rfl, (blk_cell BK852.out 2).trans rfl, (blk_cell BK888.out 0).trans rfl, (blk_cell BK888.out 1).trans rfl, (blk_cell BK888.out 2).trans rfl⟩ (fun hHeld => ?_)
              clear hK K
              refine norm_ (a' := ?_) ?_ ?_
              rotate_left
              ·
               show Act.put _ (some 63) _ = _
               simp only [Act.put, sa0, sa1, sa2, i64_w, i32_w]
               rfl
              refine pure_ (i := 3) (N := some 64) (v := ?_) (a' := ?_) #[true, true, true, true, false, false, false, false, false, false, false, false, false, false, false, false, false, false, false, false, false, false, false, false, false, false] rfl rfl (any_of HT_.out (by kernel_rfl)) (fun _ _ _ h => h) (Or.inl ⟨by rfl, ?_⟩) ?_ ?_
              rotate_left
              ·
               intro w'
               go_simp
               with_reducible rfl
              rotate_left
              ·
               simp only [Act.put, sa0, sa1, sa2, i64_w, i32_w]
               rfl
              refine take_ (i := 4) (N := some 65) (v := ?_) (a' := ?_) #[true, true, true, true, true, false, false, false, false, false, false, false, false, false, false, false, false, false, false, false, false, false, false, false, false, false] rfl rfl (take_ofW HT_.out HW_.out (by kernel_rfl)) (fun _ _ _ h => h) (Or.inl ⟨by rfl, ?_⟩) hHeld ?_ ?_
              rotate_left
              ·
               rintro w' ⟨s0, s1, s2, s3, s4, s5, s6, s7, s8⟩
               go_simp
               with_reducible rfl
              rotate_left
              ·
               simp only [Act.put, sa0, sa1, sa2, i64_w, i32_w]
               rfl
              refine one_ (i := 5) (N := some 66) #[true, true, true, true, true, true, false, false, false, false, false, false, false, false, false, false, false, false, false, false, false, false, false, false, false, false] rfl rfl (one_of HT_.out (by kernel_rfl)) (by decide) (fun K hK => ?_)
              refine goes_ Tryd.func25 (by kernel_rfl) rfl #[.int .i64 1] (by rfl) rfl rfl ga ?_
              with_reducible refine (dyad_Int.calls k4 1 t901 t902 t905 _ ?side1 A87.out).mono ?_
              (case side1 => first | exact hT | exact TabW.drewN hT _ | exact TabW.drew hT | exact TabW.below hT bes)
              rintro e w148 ⟨v903, rfl, ho0, hb⟩
              refine ⟨_, rfl, ?_⟩
              have n0_ := Aside0.mk (Kd.V_below (kv HO_852001) hb)
              have n1_ := Aside0.mk (Kd.V_below (kv HO_853001) hb)
              have n2_ := Aside0.mk (Kd.V_below (kv HO_889001) hb)
              have n3_ := Aside0.mk (Kd.V_below (kv HO_895001) hb)
              have n4_ := Aside0.mk (Kd.V_lower (Kd.V_mono (ok' := fun k_ => k_ ≠ gb851 ∧ k_ ≠ gb852 ∧ k_ ≠ gb888 ∧ k_ ≠ gb894) ho0 (fun k_ hk_ => ⟨(Kd.freshB (g := gb851) (o := .cells #[.bool t846, .slice Ao11 t847.length co11, .int .i64 t850] 26 (0, 0)) (kb BK851) k_ hk_), (Kd.freshB (g := gb852) (o := .cells #[.bool x853000_44, .slice Ao146 x853001_44.length co146, .int .i64 x853002_44] 26 (0, 0)) (kb BK852) k_ hk_), (Kd.freshB (g := gb888) (o := .cells #[.bool t883, .slice Ao67 t884.length co67, .int .i64 t887] 26 (0, 0)) (kb BK888) k_ hk_), (Kd.freshB (g := gb894) (o := .cells #[.bool x895000_4, u895001, .int .i64 x895002_4] 26 (0, 0)) (kb BK894) k_ hk_)⟩)) (below_size bes))
              have n5_ := Aside0.mk (blk_below (g := gb851) (o := .cells #[.bool t846, .slice Ao11 t847.length co11, .int .i64 t850] 26 (0, 0)) (kb BK851) hb)
              have n6_ := Aside0.mk (blk_below (g := gb852) (o := .cells #[.bool x853000_44, .slice Ao146 x853001_44.length co146, .int .i64 x853002_44] 26 (0, 0)) (kb BK852) hb)
              have n7_ := Aside0.mk (blk_below (g := gb888) (o := .cells #[.bool t883, .slice Ao67 t884.length co67, .int .i64 t887] 26 (0, 0)) (kb BK888) hb)
              have n8_ := Aside0.mk (blk_below (g := gb894) (o := .cells #[.bool x895000_4, u895001, .int .i64 x895002_4] 26 (0, 0)) (kb BK894) hb)
              have n9_ := Aside0.mk (below_step bes hb)
              clear HO_852001
              clear HO_853001
              clear HO_889001
              clear HO_895001
              clear BK851
              clear BK852
              clear BK888
              clear BK894
              clear HB
              have HO_852001 := n0_
              have HO_853001 := n1_
              have HO_889001 := n2_
              have HO_895001 := n3_
              have HO904 := n4_
              have BK851 := n5_
              have BK852 := n6_
              have BK888 := n7_
              have BK894 := n8_
              have HB := n9_
              clear n0_ n1_ n2_ n3_ n4_ n5_ n6_ n7_ n8_ n9_
              (try clear hb)
              (try clear hb2)
              (try clear hk)
              (try clear hi)
              (try clear ho0)
              obtain ⟨Ao149, co149, eo149⟩ := Kd.V_slice HO904.out
              (first | subst eo149 | (injection eo149 with f1_ f2_ f3_; have f4_ := f1_.symm; have f5_ := f3_.symm; clear f1_ f2_ f3_; subst f4_; subst f5_))
              refine hK.out _ _ ⟨(blk_cell BK851.out 0).trans rfl, (blk_cell BK851.out 1).trans rfl, (blk_cell BK851.out 2).trans rfl, (blk_cell BK852.out 0).trans rfl, (blk_cell BK852.out 1).trans rfl, (blk_cell BK852.out 2).trans rfl, (blk_cell BK888.out 0).trans rfl, (blk_cell BK888.out 1).trans rfl, (blk_cell BK888.out 2).trans rfl⟩ (fun hHeld => ?_)
              clear hK K
              refine norm_ (a' := ?_) ?_ ?_
              rotate_left
              ·
               show Act.put _ (some 66) _ = _
               simp only [Act.put, sa0, sa1, sa2, i64_w, i32_w]
               rfl
              refine one_ (i := 6) (N := some 67) #[true, true, true, true, true, true, true, false, false, false, false, false, false, false, false, false, false, false, false, false, false, false, false, false, false, false] rfl rfl (one_of HT_.out (by kernel_rfl)) (by decide) (fun K hK => ?_)
              refine goes_ Tryd.func28 (by kernel_rfl) rfl #[.agg #[.bool t883, .slice Ao67 t884.length co67, .int .i64 t887], .agg #[.bool t901, .slice Ao149 t902.length co149, .int .i64 t905]] (by rfl) rfl rfl ga ?_
              with_reducible refine (dyad_Num_Same.calls k4 t883 _ _ t884 t887 t901 _ _ t902 t905 false _ ?side1 ?side2 ?side3 ?side4 A88.out).mono ?_
              (case side1 => exact kvs HO_889001)
              (case side2 => exact (Kd.V_reads' HO_889001.out).2.1)
              (case side3 => exact kvs HO904)
              (case side4 => exact (Kd.V_reads' HO904.out).2.1)
              rintro e w150 ⟨rfl, hb⟩
              refine ⟨_, rfl, ?_⟩
              have n0_ := Aside0.mk (Kd.V_below (kv HO_852001) hb)
              have n1_ := Aside0.mk (Kd.V_below (kv HO_853001) hb)
              have n2_ := Aside0.mk (Kd.V_below (kv HO_889001) hb)
              have n3_ := Aside0.mk (Kd.V_below (kv HO_895001) hb)
              have n4_ := Aside0.mk (Kd.V_below (kv HO904) hb)
              have n5_ := Aside0.mk (blk_below (g := gb851) (o := .cells #[.bool t846, .slice Ao11 t847.length co11, .int .i64 t850] 26 (0, 0)) (kb BK851) hb)
              have n6_ := Aside0.mk (blk_below (g := gb852) (o := .cells #[.bool x853000_44, .slice Ao146 x853001_44.length co146, .int .i64 x853002_44] 26 (0, 0)) (kb BK852) hb)
              have n7_ := Aside0.mk (blk_below (g := gb888) (o := .cells #[.bool t883, .slice Ao67 t884.length co67, .int .i64 t887] 26 (0, 0)) (kb BK888) hb)
              have n8_ := Aside0.mk (blk_below (g := gb894) (o := .cells #[.bool x895000_4, u895001, .int .i64 x895002_4] 26 (0, 0)) (kb BK894) hb)
              have n9_ := Aside0.mk (below_step bes hb)
              clear HO_852001
              clear HO_853001
              clear HO_889001
              clear HO_895001
              clear HO904
              clear BK851
              clear BK852
              clear BK888
              clear BK894
              clear HB
              have HO_852001 := n0_
              have HO_853001 := n1_
              have HO_889001 := n2_
              have HO_895001 := n3_
              have HO904 := n4_
              have BK851 := n5_
              have BK852 := n6_
              have BK888 := n7_
              have BK894 := n8_
              have HB := n9_
              clear n0_ n1_ n2_ n3_ n4_ n5_ n6_ n7_ n8_ n9_
              (try clear hb)
              (try clear hb2)
              (try clear hk)
              (try clear hi)
              refine hK.out _ _ ⟨(blk_cell BK851.out 0).trans rfl, (blk_cell BK851.out 1).trans rfl, (blk_cell BK851.out 2).trans rfl, (blk_cell BK852.out 0).trans rfl, (blk_cell BK852.out 1).trans rfl, (blk_cell BK852.out 2).trans rfl, (blk_cell BK888.out 0).trans rfl, (blk_cell BK888.out 1).trans rfl, (blk_cell BK888.out 2).trans rfl⟩ (fun hHeld => ?_)
              clear hK K
              refine norm_ (a' := ?_) ?_ ?_
              rotate_left
              ·
               show Act.put _ (some 67) _ = _
               simp only [Act.put, sa0, sa1, sa2, i64_w, i32_w]
               rfl
              refine pure_ (i := 7) (N := some 68) (v := ?_) (a' := ?_) #[true, true, true, true, true, true, true, true, false, false, false, false, false, false, false, false, false, false, false, false, false, false, false, false, false, false] rfl rfl (any_of HT_.out (by kernel_rfl)) (fun _ _ _ h => h) (Or.inl ⟨by rfl, ?_⟩) ?_ ?_
              rotate_left
              ·
               intro w'
               go_simp
               with_reducible rfl
              rotate_left
              ·
               simp only [Act.put, sa0, sa1, sa2, i64_w, i32_w]
               rfl
              refine pure_ (i := 8) (N := some 69) (v := ?_) (a' := ?_) #[true, true, true, true, true, true, true, true, true, false, false, false, false, false, false, false, false, false, false, false, false, false, false, false, false, false] rfl rfl (any_of HT_.out (by kernel_rfl)) (fun _ _ _ h => h) (Or.inl ⟨by rfl, ?_⟩) ?_ ?_
              rotate_left
              ·
               intro w'
               go_simp
               with_reducible rfl
              rotate_left
              ·
               simp only [Act.put, sa0, sa1, sa2, i64_w, i32_w]
               rfl
              refine pure_ (i := 9) (N := some 70) (v := undef) (a' := ?_) #[true, true, true, true, true, true, true, true, true, true, false, false, false, false, false, false, false, false, false, false, false, false, false, false, false, false] rfl rfl (any_of HT_.out (by kernel_rfl)) (fun _ _ _ h => h) (Or.inr ⟨by rfl, rfl⟩) ?_ ?_
              rotate_left
              ·
               simp only [Act.put, sa0, sa1, sa2, i64_w, i32_w]
               rfl
              refine pure_ (i := 10) (N := some 71) (v := undef) (a' := ?_) #[true, true, true, true, true, true, true, true, true, true, true, false, false, false, false, false, false, false, false, false, false, false, false, false, false, false] rfl rfl (any_of HT_.out (by kernel_rfl)) (fun _ _ _ h => h) (Or.inr ⟨by rfl, rfl⟩) ?_ ?_
              rotate_left
              ·
               simp only [Act.put, sa0, sa1, sa2, i64_w, i32_w]
               rfl
              refine pure_ (i := 11) (N := some 72) (v := undef) (a' := ?_) #[true, true, true, true, true, true, true, true, true, true, true, true, false, false, false, false, false, false, false, false, false, false, false, false, false, false] rfl rfl (any_of HT_.out (by kernel_rfl)) (fun _ _ _ h => h) (Or.inr ⟨by rfl, rfl⟩) ?_ ?_
              rotate_left
              ·
               simp only [Act.put, sa0, sa1, sa2, i64_w, i32_w]
               rfl
              refine pure_ (i := 12) (N := some 73) (v := undef) (a' := ?_) #[true, true, true, true, true, true, true, true, true, true, true, true, true, false, false, false, false, false, false, false, false, false, false, false, false, false] rfl rfl (any_of HT_.out (by kernel_rfl)) (fun _ _ _ h => h) (Or.inr ⟨by rfl, rfl⟩) ?_ ?_
              rotate_left
              ·
               simp only [Act.put, sa0, sa1, sa2, i64_w, i32_w]
               rfl
              refine pure_ (i := 13) (N := some 74) (v := undef) (a' := ?_) #[true, true, true, true, true, true, true, true, true, true, true, true, true, true, false, false, false, false, false, false, false, false, false, false, false, false] rfl rfl (any_of HT_.out (by kernel_rfl)) (fun _ _ _ h => h) (Or.inr ⟨by rfl, rfl⟩) ?_ ?_
              rotate_left
              ·
               simp only [Act.put, sa0, sa1, sa2, i64_w, i32_w]
               rfl
              refine pure_ (i := 14) (N := some 75) (v := ?_) (a' := ?_) #[true, true, true, true, true, true, true, true, true, true, true, true, true, true, true, false, false, false, false, false, false, false, false, false, false, false] rfl rfl (any_of HT_.out (by kernel_rfl)) (fun _ _ _ h => h) (Or.inl ⟨by rfl, ?_⟩) ?_ ?_
              rotate_left
              ·
               intro w'
               go_simp
               with_reducible rfl
              rotate_left
              ·
               simp only [Act.put, sa0, sa1, sa2, i64_w, i32_w]
               rfl
              refine pure_ (i := 15) (N := some 76) (v := ?_) (a' := ?_) #[true, true, true, true, true, true, true, true, true, true, true, true, true, true, true, true, false, false, false, false, false, false, false, false, false, false] rfl rfl (any_of HT_.out (by kernel_rfl)) (fun _ _ _ h => h) (Or.inl ⟨by rfl, ?_⟩) ?_ ?_
              rotate_left
              ·
               intro w'
               go_simp
               with_reducible rfl
              rotate_left
              ·
               simp only [Act.put, sa0, sa1, sa2, i64_w, i32_w]
               rfl
              refine pure_ (i := 16) (N := some 77) (v := undef) (a' := ?_) #[true, true, true, true, true, true, true, true, true, true, true, true, true, true, true, true, true, false, false, false, false, false, false, false, false, false] rfl rfl (any_of HT_.out (by kernel_rfl)) (fun _ _ _ h => h) (Or.inr ⟨by rfl, rfl⟩) ?_ ?_
              rotate_left
              ·
               simp only [Act.put, sa0, sa1, sa2, i64_w, i32_w]
               rfl
              refine pure_ (i := 17) (N := some 78) (v := undef) (a' := ?_) #[true, true, true, true, true, true, true, true, true, true, true, true, true, true, true, true, true, true, false, false, false, false, false, false, false, false] rfl rfl (any_of HT_.out (by kernel_rfl)) (fun _ _ _ h => h) (Or.inr ⟨by rfl, rfl⟩) ?_ ?_
              rotate_left
              ·
               simp only [Act.put, sa0, sa1, sa2, i64_w, i32_w]
               rfl
              refine pure_ (i := 18) (N := some 79) (v := undef) (a' := ?_) #[true, true, true, true, true, true, true, true, true, true, true, true, true, true, true, true, true, true, true, false, false, false, false, false, false, false] rfl rfl (any_of HT_.out (by kernel_rfl)) (fun _ _ _ h => h) (Or.inr ⟨by rfl, rfl⟩) ?_ ?_
              rotate_left
              ·
               simp only [Act.put, sa0, sa1, sa2, i64_w, i32_w]
               rfl
              refine pure_ (i := 19) (N := some 80) (v := ?_) (a' := ?_) #[true, true, true, true, true, true, true, true, true, true, true, true, true, true, true, true, true, true, true, true, false, false, false, false, false, false] rfl rfl (any_of HT_.out (by kernel_rfl)) (fun _ _ _ h => h) (Or.inl ⟨by rfl, ?_⟩) ?_ ?_
              rotate_left
              ·
               intro w'
               go_simp
               with_reducible rfl
              rotate_left
              ·
               simp only [Act.put, sa0, sa1, sa2, i64_w, i32_w]
               rfl
              refine pure_ (i := 20) (N := some 81) (v := ?_) (a' := ?_) #[true, true, true, true, true, true, true, true, true, true, true, true, true, true, true, true, true, true, true, true, true, false, false, false, false, false] rfl rfl (any_of HT_.out (by kernel_rfl)) (fun _ _ _ h => h) (Or.inl ⟨by rfl, ?_⟩) ?_ ?_
              rotate_left
              ·
               intro w'
               go_simp
               with_reducible rfl
              rotate_left
              ·
               simp only [Act.put, sa0, sa1, sa2, i64_w, i32_w]
               rfl
              refine pure_ (i := 21) (N := some 82) (v := undef) (a' := ?_) #[true, true, true, true, true, true, true, true, true, true, true, true, true, true, true, true, true, true, true, true, true, true, false, false, false, false] rfl rfl (any_of HT_.out (by kernel_rfl)) (fun _ _ _ h => h) (Or.inr ⟨by rfl, rfl⟩) ?_ ?_
              rotate_left
              ·
               simp only [Act.put, sa0, sa1, sa2, i64_w, i32_w]
               rfl
              refine pure_ (i := 22) (N := some 83) (v := undef) (a' := ?_) #[true, true, true, true, true, true, true, true, true, true, true, true, true, true, true, true, true, true, true, true, true, true, true, false, false, false] rfl rfl (any_of HT_.out (by kernel_rfl)) (fun _ _ _ h => h) (Or.inr ⟨by rfl, rfl⟩) ?_ ?_
              rotate_left
              ·
               simp only [Act.put, sa0, sa1, sa2, i64_w, i32_w]
               rfl
              refine pure_ (i := 23) (N := some 84) (v := undef) (a' := ?_) #[true, true, true, true, true, true, true, true, true, true, true, true, true, true, true, true, true, true, true, true, true, true, true, true, false, false] rfl rfl (any_of HT_.out (by kernel_rfl)) (fun _ _ _ h => h) (Or.inr ⟨by rfl, rfl⟩) ?_ ?_
              rotate_left
              ·
               simp only [Act.put, sa0, sa1, sa2, i64_w, i32_w]
               rfl
              refine pure_ (i := 24) (N := some 85) (v := ?_) (a' := ?_) #[true, true, true, true, true, true, true, true, true, true, true, true, true, true, true, true, true, true, true, true, true, true, true, true, true, false] rfl rfl (any_of HT_.out (by kernel_rfl)) (fun _ _ _ h => h) (Or.inl ⟨by rfl, ?_⟩) ?_ ?_
              rotate_left
              ·
               intro w'
               go_simp
               with_reducible rfl
              rotate_left
              ·
               simp only [Act.put, sa0, sa1, sa2, i64_w, i32_w]
               rfl
              refine pure_ (i := 25) (N := some 4) (v := ?_) (a' := ?_) #[true, true, true, true, true, true, true, true, true, true, true, true, true, true, true, true, true, true, true, true, true, true, true, true, true, true] rfl rfl (any_of HT_.out (by kernel_rfl)) (fun _ _ _ h => h) (Or.inl ⟨by rfl, ?_⟩) ?_ ?_
              rotate_left
              ·
               intro w'
               go_simp
               with_reducible rfl
              rotate_left
              ·
               simp only [Act.put, sa0, sa1, sa2, i64_w, i32_w]
               rfl
              refine done_ (done_of HT_.out (by kernel_rfl)) ?_
              try go_wp2
              go_ret
              exact ⟨er, bes⟩
            ·
             replace c86 := Bool.eq_false_iff.mpr c86
             subst c86
             rw [if_neg (show ¬ (false = true) by decide)] at H
             obtain rfl := Option.some.inj H
             try go_wp2
             have n0_ := Aside0.mk (Kd.V_drew HO_852001.out)
             have n1_ := Aside0.mk (Kd.V_drew HO_853001.out)
             have n2_ := Aside0.mk (Kd.V_drew HO_889001.out)
             have n3_ := Aside0.mk (Kd.V_drew HO_895001.out)
             have n4_ := Aside0.mk (blk_drew BK851.out)
             have n5_ := Aside0.mk (blk_drew BK852.out)
             have n6_ := Aside0.mk (blk_drew BK888.out)
             have n7_ := Aside0.mk (blk_drew BK894.out)
             have n8_ := Aside0.mk (below_drew1 HB.out)
             clear HO_852001
             clear HO_853001
             clear HO_889001
             clear HO_895001
             clear BK851
             clear BK852
             clear BK888
             clear BK894
             clear HB
             have HO_852001 := n0_
             have HO_853001 := n1_
             have HO_889001 := n2_
             have HO_895001 := n3_
             have BK851 := n4_
             have BK852 := n5_
             have BK888 := n6_
             have BK894 := n7_
             have HB := n8_
             clear n0_ n1_ n2_ n3_ n4_ n5_ n6_ n7_ n8_
             obtain ⟨Ao152, co152, eo152⟩ := Kd.V_slice HO_853001.out
             (first | subst eo152 | (injection eo152 with f1_ f2_ f3_; have f4_ := f1_.symm; have f5_ := f3_.symm; clear f1_ f2_ f3_; subst f4_; subst f5_))
             refine start_ (n := 26) (S := fun w' => w'.cell? ⟨gb851, 0, none⟩ = some (.bool t846) ∧ w'.cell? ⟨gb851, 1, none⟩ = some (.slice Ao11 t847.length co11) ∧ w'.cell? ⟨gb851, 2, none⟩ = some (.int .i64 t850) ∧ w'.cell? ⟨gb852, 0, none⟩ = some (.bool x853000_44) ∧ w'.cell? ⟨gb852, 1, none⟩ = some (.slice Ao152 x853001_44.length co152) ∧ w'.cell? ⟨gb852, 2, none⟩ = some (.int .i64 x853002_44)) (ds := []) #[false, false, false, false, false, false, false, false, false, false, false, false, false, false, false, false, false, false, false, false, false, false, false, false, false, false] (by kernel_rfl) rfl rfl ⟨(blk_cell BK851.out 0).trans rfl, (blk_cell BK851.out 1).trans rfl, (blk_cell BK851.out 2).trans rfl, (blk_cell BK852.out 0).trans rfl, (blk_cell BK852.out 1).trans rfl, (blk_cell BK852.out 2).trans rfl⟩ (fun hHeld => ?_); refine with_tabW gimballaw07_DyadInts.tab23 gimballaw07_DyadInts.bits23 (fun HT_ HW_ => ?_)
             generalize wr.drew = w151 at HO_852001 HO_853001 HO_889001 HO_895001 BK851 BK852 BK888 BK894 HB hHeld ⊢
             refine take_ (i := 0) (N := some 61) (v := ?_) (a' := ?_) #[true, false, false, false, false, false, false, false, false, false, false, false, false, false, false, false, false, false, false, false, false, false, false, false, false, false] rfl rfl (take_ofW HT_.out HW_.out (by kernel_rfl)) (fun _ _ _ h => h) (Or.inl ⟨by rfl, ?_⟩) hHeld ?_ ?_
             rotate_left
             ·
              rintro w' ⟨s0, s1, s2, s3, s4, s5⟩
              go_simp
              with_reducible rfl
             rotate_left
             ·
              simp only [Act.put, sa0, sa1, sa2, i64_w, i32_w]
              rfl
             refine take_ (i := 1) (N := some 62) (v := ?_) (a' := ?_) #[true, true, false, false, false, false, false, false, false, false, false, false, false, false, false, false, false, false, false, false, false, false, false, false, false, false] rfl rfl (take_ofW HT_.out HW_.out (by kernel_rfl)) (fun _ _ _ h => h) (Or.inl ⟨by rfl, ?_⟩) hHeld ?_ ?_
             rotate_left
             ·
              rintro w' ⟨s0, s1, s2, s3, s4, s5⟩
              go_simp
              with_reducible rfl
             rotate_left
             ·
              simp only [Act.put, sa0, sa1, sa2, i64_w, i32_w]
              rfl
             refine one_ (i := 2) (N := some 63) #[true, true, true, false, false, false, false, false, false, false, false, false, false, false, false, false, false, false, false, false, false, false, false, false, false, false] rfl rfl (one_of HT_.out (by kernel_rfl)) (by decide) (fun K hK => ?_)
             refine goes_ Tryd.func28 (by kernel_rfl) rfl #[.agg #[.bool t846, .slice Ao11 t847.length co11, .int .i64 t850], .agg #[.bool x853000_44, .slice Ao152 x853001_44.length co152, .int .i64 x853002_44]] (by rfl) rfl rfl ga ?_
             with_reducible refine (dyad_Num_Same.calls k4 t846 _ _ t847 t850 x853000_44 _ _ x853001_44 x853002_44 false _ ?side1 ?side2 ?side3 ?side4 A85.out).mono ?_
             (case side1 => exact kvs HO_852001)
             (case side2 => exact (Kd.V_reads' HO_852001.out).2.1)
             (case side3 => exact kvs HO_853001)
             (case side4 => exact (Kd.V_reads' HO_853001.out).2.1)
             rintro e w153 ⟨rfl, hb⟩
             refine ⟨_, rfl, ?_⟩
             have n0_ := Aside0.mk (Kd.V_below (kv HO_852001) hb)
             have n1_ := Aside0.mk (Kd.V_below (kv HO_853001) hb)
             have n2_ := Aside0.mk (Kd.V_below (kv HO_889001) hb)
             have n3_ := Aside0.mk (Kd.V_below (kv HO_895001) hb)
             have n4_ := Aside0.mk (blk_below (g := gb851) (o := .cells #[.bool t846, .slice Ao11 t847.length co11, .int .i64 t850] 26 (0, 0)) (kb BK851) hb)
             have n5_ := Aside0.mk (blk_below (g := gb852) (o := .cells #[.bool x853000_44, .slice Ao152 x853001_44.length co152, .int .i64 x853002_44] 26 (0, 0)) (kb BK852) hb)
             have n6_ := Aside0.mk (blk_below (g := gb888) (o := .cells #[.bool t883, .slice Ao67 t884.length co67, .int .i64 t887] 26 (0, 0)) (kb BK888) hb)
             have n7_ := Aside0.mk (blk_below (g := gb894) (o := .cells #[.bool x895000_4, u895001, .int .i64 x895002_4] 26 (0, 0)) (kb BK894) hb)
             have n8_ := Aside0.mk (below_step bes hb)
             clear HO_852001
             clear HO_853001
             clear HO_889001
             clear HO_895001
             clear BK851
             clear BK852
             clear BK888
             clear BK894
             clear HB
             have HO_852001 := n0_
             have HO_853001 := n1_
             have HO_889001 := n2_
             have HO_895001 := n3_
             have BK851 := n4_
             have BK852 := n5_
             have BK888 := n6_
             have BK894 := n7_
             have HB := n8_
             clear n0_ n1_ n2_ n3_ n4_ n5_ n6_ n7_ n8_
             (try clear hb)
             (try clear hb2)
             (try clear hk)
             (try clear hi)
             refine hK.out _ _ ⟨(blk_cell BK851.out 0).trans rfl, (blk_cell BK851.out 1).trans rfl, (blk_cell BK851.out 2).trans rfl, (blk_cell BK852.out 0).trans rfl, (blk_cell BK852.out 1).trans rfl, (blk_cell BK852.out 2).trans rfl⟩ (fun hHeld => ?_)
             clear hK K
             refine norm_ (a' := ?_) ?_ ?_
             rotate_left
             ·
              show Act.put _ (some 63) _ = _
              simp only [Act.put, sa0, sa1, sa2, i64_w, i32_w]
              rfl
             refine pure_ (i := 3) (N := some 64) (v := ?_) (a' := ?_) #[true, true, true, true, false, false, false, false, false, false, false, false, false, false, false, false, false, false, false, false, false, false, false, false, false, false] rfl rfl (any_of HT_.out (by kernel_rfl)) (fun _ _ _ h => h) (Or.inl ⟨by rfl, ?_⟩) ?_ ?_
             rotate_left
             ·
              intro w'
              go_simp
              with_reducible rfl
             rotate_left
             ·
              simp only [Act.put, sa0, sa1, sa2, i64_w, i32_w]
              rfl
             refine pure_ (i := 4) (N := some 65) (v := undef) (a' := ?_) #[true, true, true, true, true, false, false, false, false, false, false, false, false, false, false, false, false, false, false, false, false, false, false, false, false, false] rfl rfl (any_of HT_.out (by kernel_rfl)) (fun _ _ _ h => h) (Or.inr ⟨by rfl, rfl⟩) ?_ ?_
             rotate_left
             ·
              simp only [Act.put, sa0, sa1, sa2, i64_w, i32_w]
              rfl
             refine pure_ (i := 5) (N := some 66) (v := undef) (a' := ?_) #[true, true, true, true, true, true, false, false, false, false, false, false, false, false, false, false, false, false, false, false, false, false, false, false, false, false] rfl rfl (any_of HT_.out (by kernel_rfl)) (fun _ _ _ h => h) (Or.inr ⟨by rfl, rfl⟩) ?_ ?_
             rotate_left
             ·
              simp only [Act.put, sa0, sa1, sa2, i64_w, i32_w]
              rfl
             refine pure_ (i := 6) (N := some 67) (v := undef) (a' := ?_) #[true, true, true, true, true, true, true, false, false, false, false, false, false, false, false, false, false, false, false, false, false, false, false, false, false, false] rfl rfl (any_of HT_.out (by kernel_rfl)) (fun _ _ _ h => h) (Or.inr ⟨by rfl, rfl⟩) ?_ ?_
             rotate_left
             ·
              simp only [Act.put, sa0, sa1, sa2, i64_w, i32_w]
              rfl
             refine pure_ (i := 7) (N := some 68) (v := ?_) (a' := ?_) #[true, true, true, true, true, true, true, true, false, false, false, false, false, false, false, false, false, false, false, false, false, false, false, false, false, false] rfl rfl (any_of HT_.out (by kernel_rfl)) (fun _ _ _ h => h) (Or.inl ⟨by rfl, ?_⟩) ?_ ?_
             rotate_left
             ·
              intro w'
              go_simp
              with_reducible rfl
             rotate_left
             ·
              simp only [Act.put, sa0, sa1, sa2, i64_w, i32_w]
              rfl
             refine pure_ (i := 8) (N := some 69) (v := ?_) (a' := ?_) #[true, true, true, true, true, true, true, true, true, false, false, false, false, false, false, false, false, false, false, false, false, false, false, false, false, false] rfl rfl (any_of HT_.out (by kernel_rfl)) (fun _ _ _ h => h) (Or.inl ⟨by rfl, ?_⟩) ?_ ?_
             rotate_left
             ·
              intro w'
              go_simp
              with_reducible rfl
             rotate_left
             ·
              simp only [Act.put, sa0, sa1, sa2, i64_w, i32_w]
              rfl
             refine pure_ (i := 9) (N := some 70) (v := undef) (a' := ?_) #[true, true, true, true, true, true, true, true, true, true, false, false, false, false, false, false, false, false, false, false, false, false, false, false, false, false] rfl rfl (any_of HT_.out (by kernel_rfl)) (fun _ _ _ h => h) (Or.inr ⟨by rfl, rfl⟩) ?_ ?_
             rotate_left
             ·
              simp only [Act.put, sa0, sa1, sa2, i64_w, i32_w]
              rfl
             refine pure_ (i := 10) (N := some 71) (v := undef) (a' := ?_) #[true, true, true, true, true, true, true, true, true, true, true, false, false, false, false, false, false, false, false, false, false, false, false, false, false, false] rfl rfl (any_of HT_.out (by kernel_rfl)) (fun _ _ _ h => h) (Or.inr ⟨by rfl, rfl⟩) ?_ ?_
             rotate_left
             ·
              simp only [Act.put, sa0, sa1, sa2, i64_w, i32_w]
              rfl
             refine pure_ (i := 11) (N := some 72) (v := undef) (a' := ?_) #[true, true, true, true, true, true, true, true, true, true, true, true, false, false, false, false, false, false, false, false, false, false, false, false, false, false] rfl rfl (any_of HT_.out (by kernel_rfl)) (fun _ _ _ h => h) (Or.inr ⟨by rfl, rfl⟩) ?_ ?_
             rotate_left
             ·
              simp only [Act.put, sa0, sa1, sa2, i64_w, i32_w]
              rfl
             refine pure_ (i := 12) (N := some 73) (v := undef) (a' := ?_) #[true, true, true, true, true, true, true, true, true, true, true, true, true, false, false, false, false, false, false, false, false, false, false, false, false, false] rfl rfl (any_of HT_.out (by kernel_rfl)) (fun _ _ _ h => h) (Or.inr ⟨by rfl, rfl⟩) ?_ ?_
             rotate_left
             ·
              simp only [Act.put, sa0, sa1, sa2, i64_w, i32_w]
              rfl
             refine pure_ (i := 13) (N := some 74) (v := undef) (a' := ?_) #[true, true, true, true, true, true, true, true, true, true, true, true, true, true, false, false, false, false, false, false, false, false, false, false, false, false] rfl rfl (any_of HT_.out (by kernel_rfl)) (fun _ _ _ h => h) (Or.inr ⟨by rfl, rfl⟩) ?_ ?_
             rotate_left
             ·
              simp only [Act.put, sa0, sa1, sa2, i64_w, i32_w]
              rfl
             refine pure_ (i := 14) (N := some 75) (v := ?_) (a' := ?_) #[true, true, true, true, true, true, true, true, true, true, true, true, true, true, true, false, false, false, false, false, false, false, false, false, false, false] rfl rfl (any_of HT_.out (by kernel_rfl)) (fun _ _ _ h => h) (Or.inl ⟨by rfl, ?_⟩) ?_ ?_
             rotate_left
             ·
              intro w'
              go_simp
              with_reducible rfl
             rotate_left
             ·
              simp only [Act.put, sa0, sa1, sa2, i64_w, i32_w]
              rfl
             refine pure_ (i := 15) (N := some 76) (v := ?_) (a' := ?_) #[true, true, true, true, true, true, true, true, true, true, true, true, true, true, true, true, false, false, false, false, false, false, false, false, false, false] rfl rfl (any_of HT_.out (by kernel_rfl)) (fun _ _ _ h => h) (Or.inl ⟨by rfl, ?_⟩) ?_ ?_
             rotate_left
             ·
              intro w'
              go_simp
              with_reducible rfl
             rotate_left
             ·
              simp only [Act.put, sa0, sa1, sa2, i64_w, i32_w]
              rfl
             refine pure_ (i := 16) (N := some 77) (v := undef) (a' := ?_) #[true, true, true, true, true, true, true, true, true, true, true, true, true, true, true, true, true, false, false, false, false, false, false, false, false, false] rfl rfl (any_of HT_.out (by kernel_rfl)) (fun _ _ _ h => h) (Or.inr ⟨by rfl, rfl⟩) ?_ ?_
             rotate_left
             ·
              simp only [Act.put, sa0, sa1, sa2, i64_w, i32_w]
              rfl
             refine pure_ (i := 17) (N := some 78) (v := undef) (a' := ?_) #[true, true, true, true, true, true, true, true, true, true, true, true, true, true, true, true, true, true, false, false, false, false, false, false, false, false] rfl rfl (any_of HT_.out (by kernel_rfl)) (fun _ _ _ h => h) (Or.inr ⟨by rfl, rfl⟩) ?_ ?_
             rotate_left
             ·
              simp only [Act.put, sa0, sa1, sa2, i64_w, i32_w]
              rfl
             refine pure_ (i := 18) (N := some 79) (v := undef) (a' := ?_) #[true, true, true, true, true, true, true, true, true, true, true, true, true, true, true, true, true, true, true, false, false, false, false, false, false, false] rfl rfl (any_of HT_.out (by kernel_rfl)) (fun _ _ _ h => h) (Or.inr ⟨by rfl, rfl⟩) ?_ ?_
             rotate_left
             ·
              simp only [Act.put, sa0, sa1, sa2, i64_w, i32_w]
              rfl
             refine pure_ (i := 19) (N := some 80) (v := ?_) (a' := ?_) #[true, true, true, true, true, true, true, true, true, true, true, true, true, true, true, true, true, true, true, true, false, false, false, false, false, false] rfl rfl (any_of HT_.out (by kernel_rfl)) (fun _ _ _ h => h) (Or.inl ⟨by rfl, ?_⟩) ?_ ?_
             rotate_left
             ·
              intro w'
              go_simp
              with_reducible rfl
             rotate_left
             ·
              simp only [Act.put, sa0, sa1, sa2, i64_w, i32_w]
              rfl
             refine pure_ (i := 20) (N := some 81) (v := ?_) (a' := ?_) #[true, true, true, true, true, true, true, true, true, true, true, true, true, true, true, true, true, true, true, true, true, false, false, false, false, false] rfl rfl (any_of HT_.out (by kernel_rfl)) (fun _ _ _ h => h) (Or.inl ⟨by rfl, ?_⟩) ?_ ?_
             rotate_left
             ·
              intro w'
              go_simp
              with_reducible rfl
             rotate_left
             ·
              simp only [Act.put, sa0, sa1, sa2, i64_w, i32_w]
              rfl
             refine pure_ (i := 21) (N := some 82) (v := undef) (a' := ?_) #[true, true, true, true, true, true, true, true, true, true, true, true, true, true, true, true, true, true, true, true, true, true, false, false, false, false] rfl rfl (any_of HT_.out (by kernel_rfl)) (fun _ _ _ h => h) (Or.inr ⟨by rfl, rfl⟩) ?_ ?_
             rotate_left
             ·
              simp only [Act.put, sa0, sa1, sa2, i64_w, i32_w]
              rfl
             refine pure_ (i := 22) (N := some 83) (v := undef) (a' := ?_) #[true, true, true, true, true, true, true, true, true, true, true, true, true, true, true, true, true, true, true, true, true, true, true, false, false, false] rfl rfl (any_of HT_.out (by kernel_rfl)) (fun _ _ _ h => h) (Or.inr ⟨by rfl, rfl⟩) ?_ ?_
             rotate_left
             ·
              simp only [Act.put, sa0, sa1, sa2, i64_w, i32_w]
              rfl
             refine pure_ (i := 23) (N := some 84) (v := undef) (a' := ?_) #[true, true, true, true, true, true, true, true, true, true, true, true, true, true, true, true, true, true, true, true, true, true, true, true, false, false] rfl rfl (any_of HT_.out (by kernel_rfl)) (fun _ _ _ h => h) (Or.inr ⟨by rfl, rfl⟩) ?_ ?_
             rotate_left
             ·
              simp only [Act.put, sa0, sa1, sa2, i64_w, i32_w]
              rfl
             refine pure_ (i := 24) (N := some 85) (v := ?_) (a' := ?_) #[true, true, true, true, true, true, true, true, true, true, true, true, true, true, true, true, true, true, true, true, true, true, true, true, true, false] rfl rfl (any_of HT_.out (by kernel_rfl)) (fun _ _ _ h => h) (Or.inl ⟨by rfl, ?_⟩) ?_ ?_
             rotate_left
             ·
              intro w'
              go_simp
              with_reducible rfl
             rotate_left
             ·
              simp only [Act.put, sa0, sa1, sa2, i64_w, i32_w]
              rfl
             refine pure_ (i := 25) (N := some 4) (v := ?_) (a' := ?_) #[true, true, true, true, true, true, true, true, true, true, true, true, true, true, true, true, true, true, true, true, true, true, true, true, true, true] rfl rfl (any_of HT_.out (by kernel_rfl)) (fun _ _ _ h => h) (Or.inl ⟨by rfl, ?_⟩) ?_ ?_
             rotate_left
             ·
              intro w'
              go_simp
              with_reducible rfl
             rotate_left
             ·
              simp only [Act.put, sa0, sa1, sa2, i64_w, i32_w]
              rfl
             refine done_ (done_of HT_.out (by kernel_rfl)) ?_
             try go_wp2
             go_ret
             exact ⟨er, bes⟩
 ·
  replace c4 := Bool.eq_false_iff.mpr c4
  subst c4
  rw [if_neg (show ¬ (false = true) by decide)] at H
  obtain rfl := Option.some.inj H
  go_enter Tryd.func5, Tryd.ntmps5
  go_wp2_with (first | ((with_reducible refine gate_callee (f := 7) rfl ?_); refine goesL_ (some 12) rfl rfl Tryd.func7 (by kernel_rfl) rfl #[] rfl ga ?_; (with_reducible refine (gimballaw07_head.calls k  false _ ?side1 A3.out).mono ?_); (case side1 => first | exact hT | exact TabW.drewN hT _ | exact TabW.drew hT | exact TabW.below hT bel); rintro e w154 ⟨rfl, hb⟩; refine ⟨_, rfl, ?_⟩; have n0_ := Aside0.mk (below_step bel hb); clear HB; have HB := n0_; clear n0_; (try clear hb)))
  go_ret
  exact ⟨er, bel⟩

/-- THE ONE PURE STATEMENT of gimballaw07_DyadInts: yours. -/
def gimballaw07_DyadInts.Pure : Prop := ∀ (a0 : Int) (a1 : Int), (Lit.int .i64 a0).wf = true → (Lit.int .i64 a1).wf = true → ∃ k, gimballaw07_DyadInts.f k a0 a1 = some true
theorem gimballaw07_DyadInts.walk (P : gimballaw07_DyadInts.Pure) (a0 : Int) (a1 : Int) (w : World) (w0 : (Lit.int .i64 a0).wf = true) (w1 : (Lit.int .i64 a1).wf = true) (hT : TabW w) :
  Calls Tryd.prog 5 #[.int .i64 a0, .int .i64 a1] w fun e w' => e = .returned (.bool true) ∧ Below w.heap.size w w' := by
 obtain ⟨k, h⟩ := P a0 a1 w0 w1
 refine (gimballaw07_DyadInts.calls k a0 a1 true w hT h).mono ?_
 rintro e w' ⟨rfl, hd⟩
 exact ⟨rfl, hd⟩

end Go.Proofs.YtakegikedpcilaaDoor.F
