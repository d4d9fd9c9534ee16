-- Written by a program of this seat's session (mkprint), out of the translation.
import Derived.Test.YtenegelkbfmjkaaDoorShort
import Derived.Test.YtenegelkbfmjkaaDoorFx0
import Derived.Test.YtenegelkbfmjkaaDoorFx5
import Derived.Test.YtenegelkbfmjkaaDoorFx6
import Derived.Test.YtenegelkbfmjkaaDoorFx7
namespace Go.Proofs.YtenegelkbfmjkaaDoor.F
open Go.RowKit Go.Proofs.YtenegelkbfmjkaaDoorW.PrintWords Go.Proofs.YtenegelkbfmjkaaDoorW.PrintLast Go.Proofs.YtenegelkbfmjkaaDoorW.PrintMore
attribute [local go_sem] max2_int min2_int max_two min_two max_three min_three max_four min_four   -- for this text's walks alone
set_option linter.unusedVariables false
set_option linter.unusedSimpArgs false

/-! ### dyad_Num_Add: function 9 -/
mutual
def dyad_Num_Add.j0 : Nat → List Int → List Int → Int → Bool → List Int → Int → Option (Bool × List Int × Int)
 | 0, _, _, _, _, _, _ => none
 | k + 1, x5, x6, x7, x324000, x324001, x324002 => if 0 ≤ (wrap64 ((x5.length : Int) + 1)) then (if (wrap64 ((x5.length : Int) + 1) : Int).toNat ≤ 70368744177664 then (dyad_Num_Add.l0 k x5 x6 x7 (List.replicate 0 0) 0 (x5.length : Int) 0 x324000 x324001 x324002) else (none)) else (none)
def dyad_Num_Add.l0 : Nat → List Int → List Int → Int → List Int → Int → Int → Int → Bool → List Int → Int → Option (Bool × List Int × Int)
 | 0, _, _, _, _, _, _, _, _, _, _ => none
 | k + 1, x5, x6, x7, x8, x9, x49, x50, x324000, x324001, x324002 => if x50 < x49 then (if 0 ≤ x50 then (if x50 < (x5.length : Int) then (if x50 < (x6.length : Int) then (if x8.length < 35184372088832 then (dyad_Num_Add.l0 k x5 x6 x7 (x8 ++ [(IntKind.u64.wrap ((IntKind.u64.wrap (x9 + (IntKind.u64.wrap (rd x5 x50)))) + (IntKind.u64.wrap (rd x6 x50)))) % 4294967296]) ((IntKind.u64.wrap ((IntKind.u64.wrap (x9 + (IntKind.u64.wrap (rd x5 x50)))) + (IntKind.u64.wrap (rd x6 x50)))) / 4294967296) x49 (wrap64 (x50 + 1)) x324000 x324001 x324002) else (none)) else (if x8.length < 35184372088832 then (dyad_Num_Add.l0 k x5 x6 x7 (x8 ++ [(IntKind.u64.wrap (x9 + (IntKind.u64.wrap (rd x5 x50)))) % 4294967296]) ((IntKind.u64.wrap (x9 + (IntKind.u64.wrap (rd x5 x50)))) / 4294967296) x49 (wrap64 (x50 + 1)) x324000 x324001 x324002) else (none))) else (none)) else (none)) else (if x8.length < 35184372088832 then ((dyad_trim.f k x324000 (x8 ++ [(x9) % 4294967296]) x7).bind fun bt347 => (some (bt347.1, bt347.2.1, bt347.2.2))) else (none))
def dyad_Num_Add.j2 : Nat → List Int → List Int → Int → Bool → Option (Bool × List Int × Int)
 | 0, _, _, _, _ => none
 | k + 1, x5, x6, x7, x11 => if 0 ≤ (x5.length : Int) then (if ((x5.length : Int) : Int).toNat ≤ 70368744177664 then (dyad_Num_Add.l1 k x5 x6 x7 x11 (List.replicate 0 0) 0 (x5.length : Int) 0) else (none)) else (none)
def dyad_Num_Add.l1 : Nat → List Int → List Int → Int → Bool → List Int → Int → Int → Int → Option (Bool × List Int × Int)
 | 0, _, _, _, _, _, _, _, _ => none
 | k + 1, x5, x6, x7, x11, x12, x13, x106, x107 => if x107 < x106 then (if 0 ≤ x107 then (if x107 < (x5.length : Int) then (if x107 < (x6.length : Int) then (if x12.length < 35184372088832 then (dyad_Num_Add.l1 k x5 x6 x7 x11 (x12 ++ [(wrap64 ((wrap64 (x13 + (wrap64 (rd x5 x107)))) - (wrap64 (rd x6 x107)))) % 4294967296]) ((wrap64 ((wrap64 (x13 + (wrap64 (rd x5 x107)))) - (wrap64 (rd x6 x107)))) / 4294967296) x106 (wrap64 (x107 + 1))) else (none)) else (if x12.length < 35184372088832 then (dyad_Num_Add.l1 k x5 x6 x7 x11 (x12 ++ [(wrap64 (x13 + (wrap64 (rd x5 x107)))) % 4294967296]) ((wrap64 (x13 + (wrap64 (rd x5 x107)))) / 4294967296) x106 (wrap64 (x107 + 1))) else (none))) else (none)) else (none)) else ((dyad_trim.f k x11 x12 x7).bind fun bt364 => (some (bt364.1, bt364.2.1, bt364.2.2)))
end
def dyad_Num_Add.f (k : Nat) (a0_0 : Bool) (l0_1 : List Int) (a0_2 : Int) (a1_0 : Bool) (l1_1 : List Int) (a1_2 : Int) : Option (Bool × List Int × Int) := if (l0_1.length : Int) = 0 then (some (a1_0, l1_1, a1_2)) else (if (l1_1.length : Int) = 0 then (some (a0_0, l0_1, a0_2)) else ((dyad_line.f k a0_0 l0_1 a0_2 a1_0 l1_1 a1_2).bind fun bt326 => (if (a0_0 == a1_0) = true then (if (bt326.1.length : Int) < (bt326.2.1.length : Int) then (dyad_Num_Add.j0 k bt326.2.1 bt326.1 bt326.2.2 a0_0 l0_1 a0_2) else (dyad_Num_Add.j0 k bt326.1 bt326.2.1 bt326.2.2 a0_0 l0_1 a0_2)) else ((dyad_cmp.f k bt326.1 bt326.2.1).bind fun t352 => (if t352 = 0 then (some (false, ([] : List Int), 0)) else (if t352 = (-1) then (dyad_Num_Add.j2 k bt326.2.1 bt326.1 bt326.2.2 a1_0) else (dyad_Num_Add.j2 k bt326.1 bt326.2.1 bt326.2.2 a0_0)))))))
theorem dyad_Num_Add.mono_l : ∀ k, (∀ y0 y1 y2 y3 y4 y5, LeO (dyad_Num_Add.j0 k y0 y1 y2 y3 y4 y5) (dyad_Num_Add.j0 (k + 1) y0 y1 y2 y3 y4 y5)) ∧ (∀ y0 y1 y2 y3 y4 y5 y6 y7 y8 y9, LeO (dyad_Num_Add.l0 k y0 y1 y2 y3 y4 y5 y6 y7 y8 y9) (dyad_Num_Add.l0 (k + 1) y0 y1 y2 y3 y4 y5 y6 y7 y8 y9)) ∧ (∀ y0 y1 y2 y3, LeO (dyad_Num_Add.j2 k y0 y1 y2 y3) (dyad_Num_Add.j2 (k + 1) y0 y1 y2 y3)) ∧ (∀ y0 y1 y2 y3 y4 y5 y6 y7, LeO (dyad_Num_Add.l1 k y0 y1 y2 y3 y4 y5 y6 y7) (dyad_Num_Add.l1 (k + 1) y0 y1 y2 y3 y4 y5 y6 y7))
 | 0 => ⟨fun _ _ _ _ _ _ r h => by simp [dyad_Num_Add.j0] at h, fun _ _ _ _ _ _ _ _ _ _ r h => by simp [dyad_Num_Add.l0] at h, fun _ _ _ _ r h => by simp [dyad_Num_Add.j2] at h, fun _ _ _ _ _ _ _ _ r h => by simp [dyad_Num_Add.l1] at h⟩
 | k + 1 => by
  obtain ⟨ih0, ih1, ih2, ih3⟩ := dyad_Num_Add.mono_l k
  refine ⟨?_, ?_, ?_, ?_⟩ <;> intros <;> (first | unfold dyad_Num_Add.j0 | unfold dyad_Num_Add.l0 | unfold dyad_Num_Add.j2 | unfold dyad_Num_Add.l1) <;>
   repeat' with_reducible first | apply ih0 | apply ih1 | apply ih2 | apply ih3 | apply dyad_cmp.mono | apply dyad_line.mono | apply dyad_trim.mono | exact LeO.refl _ | exact LeO.none _ | refine LeO.ite ?_ ?_ | refine LeO.bind ?_ (fun _ => ?_)
theorem dyad_Num_Add.mono : ∀ a0 a1 a2 a3 a4 a5 k, LeO (dyad_Num_Add.f k a0 a1 a2 a3 a4 a5) (dyad_Num_Add.f (k + 1) a0 a1 a2 a3 a4 a5) := by
 intro a0 a1 a2 a3 a4 a5 k
 obtain ⟨ih0, ih1, ih2, ih3⟩ := dyad_Num_Add.mono_l k
 unfold dyad_Num_Add.f
 repeat' with_reducible first | apply ih0 | apply ih1 | apply ih2 | apply ih3 | apply dyad_cmp.mono | apply dyad_line.mono | apply dyad_trim.mono | exact LeO.refl _ | exact LeO.none _ | refine LeO.ite ?_ ?_ | refine LeO.bind ?_ (fun _ => ?_)
def dyad_Num_Add.T19 : Bool × List (List Nat × List Nat) := (true, [([], []), ([0], [0]), ([], []), ([], []), ([3], [3]), ([4], [4]), ([2, 5], [2, 5]), ([], []), ([1, 6, 7, 6], [1, 6, 7]), ([8, 8, 0, 1, 2, 3, 4, 5, 6, 7, 8], [8])])
def dyad_Num_Add.B19 : List Nat := [0, 1, 0, 0, 8, 24, 60, 0, 255, 511]
theorem dyad_Num_Add.tab19 : rtab .any (opsOf Tryd.f9 19) = dyad_Num_Add.T19 := by kernel_rfl
theorem dyad_Num_Add.bits19 : waitsOk dyad_Num_Add.T19.2 dyad_Num_Add.B19 = true := by kernel_rfl
set_option maxHeartbeats 8000000 in
set_option maxRecDepth 100000 in
theorem dyad_Num_Add.calls (k : Nat) (a0_0 : Bool) (P0_1_ : Nat → Prop) (A0_1 : Option Addr) (c0_1 : Nat) (l0_1 : List Int) (a0_2 : Int) (a1_0 : Bool) (P1_1_ : Nat → Prop) (A1_1 : Option Addr) (c1_1 : Nat) (l1_1 : List Int) (a1_2 : Int) (r1 : Bool) (r2 : List Int) (r3 : Int) (w : World) (hs0_1 : Kd.V (Kd.int .u32) 56 w w.heap.size (fun k_ => P0_1_ k_) (.slice A0_1 l0_1.length c0_1) l0_1) (hs1_1 : Kd.V (Kd.int .u32) 56 w w.heap.size (fun k_ => P1_1_ k_) (.slice A1_1 l1_1.length c1_1) l1_1) (hT : TabW w) (h : dyad_Num_Add.f k a0_0 l0_1 a0_2 a1_0 l1_1 a1_2 = some (r1, r2, r3)) :
  Calls Tryd.prog 9 #[.agg #[.bool a0_0, .slice A0_1 l0_1.length c0_1, .int .i64 a0_2], .agg #[.bool a1_0, .slice A1_1 l1_1.length c1_1, .int .i64 a1_2]] w fun e w' => ∃ v1_ : Value, e = .returned (.agg #[.bool r1, v1_, .int .i64 r3]) ∧ Kd.V (Kd.int .u32) 56 w' w.heap.size (fun k_ => ((P0_1_ k_ ∨ P1_1_ k_) ∨ w.heap.size ≤ k_)) v1_ r2 ∧ Below w.heap.size w w' := by
 have hu29 := Tryd.underlying29
 have HO0_1 := Aside0.mk (show Kd.V (Kd.int .u32) 56 w w.heap.size (fun k_ => ((P0_1_ k_ ∨ P1_1_ k_) ∨ w.heap.size ≤ k_)) (.slice A0_1 l0_1.length c0_1) l0_1 from Kd.V_mono hs0_1 (fun k_ hk => .inl (.inl hk)))
 have HO1_1 := Aside0.mk (show Kd.V (Kd.int .u32) 56 w w.heap.size (fun k_ => ((P0_1_ k_ ∨ P1_1_ k_) ∨ w.heap.size ≤ k_)) (.slice A1_1 l1_1.length c1_1) l1_1 from Kd.V_mono hs1_1 (fun k_ hk => .inl (.inr hk)))
 have HB := Aside0.mk (Below.refl w.heap.size w)
 have H : (if (l0_1.length : Int) = 0 then (some (a1_0, l1_1, a1_2)) else (if (l1_1.length : Int) = 0 then (some (a0_0, l0_1, a0_2)) else ((dyad_line.f k a0_0 l0_1 a0_2 a1_0 l1_1 a1_2).bind fun bt326 => (if (a0_0 == a1_0) = true then (if (bt326.1.length : Int) < (bt326.2.1.length : Int) then (dyad_Num_Add.j0 k bt326.2.1 bt326.1 bt326.2.2 a0_0 l0_1 a0_2) else (dyad_Num_Add.j0 k bt326.1 bt326.2.1 bt326.2.2 a0_0 l0_1 a0_2)) else ((dyad_cmp.f k bt326.1 bt326.2.1).bind fun t352 => (if t352 = 0 then (some (false, ([] : List Int), 0)) else (if t352 = (-1) then (dyad_Num_Add.j2 k bt326.2.1 bt326.1 bt326.2.2 a1_0) else (dyad_Num_Add.j2 k bt326.1 bt326.2.1 bt326.2.2 a0_0)))))))) = some (r1, r2, r3) := h
 clear h
 by_cases c3 : (l0_1.length : Int) = 0
 ·
  rw [if_pos c3] at H
  have c3b0 : ((l0_1.length : Int) == 0) = true := beq_iff_eq.mpr c3
  have c3b1 : ((l0_1.length : Int) != 0) = false := bne_eq_false_iff_eq.mpr c3
  clear c3
  simp only [Option.some.injEq, Prod.mk.injEq] at H
  obtain ⟨rfl, rfl, rfl⟩ := H
  go_enter Tryd.func9, Tryd.ntmps9
  go_wp2_with (first | ((with_reducible refine gate_dst (N := 2) rfl ?_); refine gbox (N := 2) (cs := #[.bool a0_0, .slice A0_1 l0_1.length c0_1, .int .i64 a0_2]) (t := 29) ?_; intro gb323 hg w4 hbox hb; refine ax6 (Kd.V_below (Kd.V_elderB (kv HO0_1) gb323 (Nat.le_of_eq hg.symm)) hb) (Kd.V_below (Kd.V_elderB (kv HO1_1) gb323 (Nat.le_of_eq hg.symm)) hb) (below_step bel hb) hbox ((ge hg : w.heap.size ≤ gb323)) ((ge hg : w.heap.size ≤ gb323)) ?_; clear HO0_1; clear HO1_1; clear HB; intro HO0_1 HO1_1 HB BK323 GW323 GE323; clear hb hbox hg) | ((with_reducible refine gate_dst (N := 3) rfl ?_); refine gbox (N := 3) (cs := #[.bool a1_0, .slice A1_1 l1_1.length c1_1, .int .i64 a1_2]) (t := 29) ?_; intro gb324 hg w5 hbox hb; refine ax9 (Kd.V_below (Kd.V_elderB (kv HO0_1) gb324 (Nat.le_of_eq hg.symm)) hb) (Kd.V_below (Kd.V_elderB (kv HO1_1) gb324 (Nat.le_of_eq hg.symm)) hb) (bb BK323 hb) (below_step bes hb) hbox ((ge hg : w.heap.size ≤ gb324)) ((ge hg : w.heap.size ≤ gb324)) (nl hg BK323) (ng hg BK323) ?_; clear HO0_1; clear HO1_1; clear BK323; clear HB; intro HO0_1 HO1_1 BK323 HB BK324 GW324 GE324 NB323_324 NB324_323; clear hb hbox hg) | ((with_reducible refine gate_dst (N := 4) rfl ?_); refine gbox (N := 4) (cs := #[.bool false, .slice none 0 0, .int .i64 0]) (t := 29) ?_; intro gb325 hg w6 hbox hb; refine ax12 (Kd.V_below (Kd.V_elderB (kv HO0_1) gb325 (Nat.le_of_eq hg.symm)) hb) (Kd.V_below (Kd.V_elderB (kv HO1_1) gb325 (Nat.le_of_eq hg.symm)) hb) (bb BK323 hb) (bb BK324 hb) (below_step bes hb) hbox ((ge hg : w.heap.size ≤ gb325)) ((ge hg : w.heap.size ≤ gb325)) (nl hg BK323) (ng hg BK323) (nl hg BK324) (ng hg BK324) ?_; clear HO0_1; clear HO1_1; clear BK323; clear BK324; clear HB; intro HO0_1 HO1_1 BK323 BK324 HB BK325 GW325 GE325 NB323_325 NB325_323 NB324_325 NB325_324; clear hb hbox hg; have hnb7 := NB323_324.out; have hnc7 := NB324_323.out; have hnb8 := NB323_325.out; have hnc8 := NB325_323.out; have hcz9_0 := bc BK323 0 rfl; have hcz9_1 := bc BK323 1 rfl; have hcz9_2 := bc BK323 2 rfl; have hfz9_0 := blk_frozen BK323.out 0; have hfz9_1 := blk_frozen BK323.out 1; have hfz9_2 := blk_frozen BK323.out 2; have hnb10 := NB324_325.out; have hnc10 := NB325_324.out; have hcz11_0 := bc BK324 0 rfl; have hcz11_1 := bc BK324 1 rfl; have hcz11_2 := bc BK324 2 rfl; have hfz11_0 := blk_frozen BK324.out 0; have hfz11_1 := blk_frozen BK324.out 1; have hfz11_2 := blk_frozen BK324.out 2; have hcz12_0 := bc BK325 0 rfl; have hcz12_1 := bc BK325 1 rfl; have hcz12_2 := bc BK325 2 rfl; have hfz12_0 := blk_frozen BK325.out 0; have hfz12_1 := blk_frozen BK325.out 1; have hfz12_2 := blk_frozen BK325.out 2))
  refine bodyPost_ret (results_cell_row rfl _ _ gb325 29 #[.bool a1_0, .slice A1_1 l1_1.length c1_1, .int .i64 a1_2] (0, 0) _ rfl (by (with_reducible repeat (first | refine blk_drewN ?_ _ | refine blk_drew ?_ | refine blk_alloc ?_ _)); refine blk_put (cs := #[.bool a1_0, .slice A1_1 l1_1.length c1_1, .int .i64 0]) ?_ 2 _ rfl; (with_reducible repeat (first | refine blk_drewN ?_ _ | refine blk_drew ?_ | refine blk_alloc ?_ _)); refine blk_put (cs := #[.bool a1_0, .slice none 0 0, .int .i64 0]) ?_ 1 _ rfl; (with_reducible repeat (first | refine blk_drewN ?_ _ | refine blk_drew ?_ | refine blk_alloc ?_ _)); refine blk_put (cs := #[.bool false, .slice none 0 0, .int .i64 0]) ?_ 0 _ rfl; (with_reducible repeat (first | refine blk_drewN ?_ _ | refine blk_drew ?_ | refine blk_alloc ?_ _)); exact BK325.out) Tryd.underlying29 rfl (by kernel_rfl)) rfl ?_
  exact ⟨_, er, by (with_reducible repeat (first | apply Kd.V_alloc | apply Kd.V_drewN | apply Kd.V_drew)); exact Kd.V_mono (Kd.V_far (p := ⟨gb325, 2, none⟩) (Kd.V_far (p := ⟨gb325, 1, none⟩) (Kd.V_far (p := ⟨gb325, 0, none⟩) (Kd.V_mono HO1_1.out (fun k_ hk => (⟨hk, hk.2⟩ : _ ∧ k_ ≠ gb325))) (fun _ hk => hk.2) (.bool a1_0)) (fun _ hk => hk.2) (.slice A1_1 l1_1.length c1_1)) (fun _ hk => hk.2) (.int .i64 a1_2)) (fun _ hk => hk.1.1.1.1), bes⟩
 ·
  rw [if_neg c3] at H
  have c3b0 : ((l0_1.length : Int) == 0) = false := beq_eq_false_iff_ne.mpr c3
  have c3b1 : ((l0_1.length : Int) != 0) = true := bne_iff_ne.mpr c3
  have c3b2 : ¬ (l0_1 = []) := fun h_ => c3 (by rw [h_]; rfl)
  by_cases c13 : (l1_1.length : Int) = 0
  ·
   rw [if_pos c13] at H
   have c13b0 : ((l1_1.length : Int) == 0) = true := beq_iff_eq.mpr c13
   have c13b1 : ((l1_1.length : Int) != 0) = false := bne_eq_false_iff_eq.mpr c13
   clear c13
   simp only [Option.some.injEq, Prod.mk.injEq] at H
   obtain ⟨rfl, rfl, rfl⟩ := H
   go_enter Tryd.func9, Tryd.ntmps9
   go_wp2_with (first | ((with_reducible refine gate_dst (N := 2) rfl ?_); refine gbox (N := 2) (cs := #[.bool a0_0, .slice A0_1 l0_1.length c0_1, .int .i64 a0_2]) (t := 29) ?_; intro gb323 hg w14 hbox hb; refine ax6 (Kd.V_below (Kd.V_elderB (kv HO0_1) gb323 (Nat.le_of_eq hg.symm)) hb) (Kd.V_below (Kd.V_elderB (kv HO1_1) gb323 (Nat.le_of_eq hg.symm)) hb) (below_step bel hb) hbox ((ge hg : w.heap.size ≤ gb323)) ((ge hg : w.heap.size ≤ gb323)) ?_; clear HO0_1; clear HO1_1; clear HB; intro HO0_1 HO1_1 HB BK323 GW323 GE323; clear hb hbox hg) | ((with_reducible refine gate_dst (N := 3) rfl ?_); refine gbox (N := 3) (cs := #[.bool a1_0, .slice A1_1 l1_1.length c1_1, .int .i64 a1_2]) (t := 29) ?_; intro gb324 hg w15 hbox hb; refine ax9 (Kd.V_below (Kd.V_elderB (kv HO0_1) gb324 (Nat.le_of_eq hg.symm)) hb) (Kd.V_below (Kd.V_elderB (kv HO1_1) gb324 (Nat.le_of_eq hg.symm)) hb) (bb BK323 hb) (below_step bes hb) hbox ((ge hg : w.heap.size ≤ gb324)) ((ge hg : w.heap.size ≤ gb324)) (nl hg BK323) (ng hg BK323) ?_; clear HO0_1; clear HO1_1; clear BK323; clear HB; intro HO0_1 HO1_1 BK323 HB BK324 GW324 GE324 NB323_324 NB324_323; clear hb hbox hg) | ((with_reducible refine gate_dst (N := 4) rfl ?_); refine gbox (N := 4) (cs := #[.bool false, .slice none 0 0, .int .i64 0]) (t := 29) ?_; intro gb325 hg w16 hbox hb; refine ax12 (Kd.V_below (Kd.V_elderB (kv HO0_1) gb325 (Nat.le_of_eq hg.symm)) hb) (Kd.V_below (Kd.V_elderB (kv HO1_1) gb325 (Nat.le_of_eq hg.symm)) hb) (bb BK323 hb) (bb BK324 hb) (below_step bes hb) hbox ((ge hg : w.heap.size ≤ gb325)) ((ge hg : w.heap.size ≤ gb325)) (nl hg BK323) (ng hg BK323) (nl hg BK324) (ng hg BK324) ?_; clear HO0_1; clear HO1_1; clear BK323; clear BK324; clear HB; intro HO0_1 HO1_1 BK323 BK324 HB BK325 GW325 GE325 NB323_325 NB325_323 NB324_325 NB325_324; clear hb hbox hg; have hnb17 := NB323_324.out; have hnc17 := NB324_323.out; have hnb18 := NB323_325.out; have hnc18 := NB325_323.out; have hcz19_0 := bc BK323 0 rfl; have hcz19_1 := bc BK323 1 rfl; have hcz19_2 := bc BK323 2 rfl; have hfz19_0 := blk_frozen BK323.out 0; have hfz19_1 := blk_frozen BK323.out 1; have hfz19_2 := blk_frozen BK323.out 2; have hnb20 := NB324_325.out; have hnc20 := NB325_324.out; have hcz21_0 := bc BK324 0 rfl; have hcz21_1 := bc BK324 1 rfl; have hcz21_2 := bc BK324 2 rfl; have hfz21_0 := blk_frozen BK324.out 0; have hfz21_1 := blk_frozen BK324.out 1; have hfz21_2 := blk_frozen BK324.out 2; have hcz22_0 := bc BK325 0 rfl; have hcz22_1 := bc BK325 1 rfl; have hcz22_2 := bc BK325 2 rfl; have hfz22_0 := blk_frozen BK325.out 0; have hfz22_1 := blk_frozen BK325.out 1; have hfz22_2 := blk_frozen BK325.out 2))
   refine bodyPost_ret (results_cell_row rfl _ _ gb325 29 #[.bool a0_0, .slice A0_1 l0_1.length c0_1, .int .i64 a0_2] (0, 0) _ rfl (by (with_reducible repeat (first | refine blk_drewN ?_ _ | refine blk_drew ?_ | refine blk_alloc ?_ _)); refine blk_put (cs := #[.bool a0_0, .slice A0_1 l0_1.length c0_1, .int .i64 0]) ?_ 2 _ rfl; (with_reducible repeat (first | refine blk_drewN ?_ _ | refine blk_drew ?_ | refine blk_alloc ?_ _)); refine blk_put (cs := #[.bool a0_0, .slice none 0 0, .int .i64 0]) ?_ 1 _ rfl; (with_reducible repeat (first | refine blk_drewN ?_ _ | refine blk_drew ?_ | refine blk_alloc ?_ _)); refine blk_put (cs := #[.bool false, .slice none 0 0, .int .i64 0]) ?_ 0 _ rfl; (with_reducible repeat (first | refine blk_drewN ?_ _ | refine blk_drew ?_ | refine blk_alloc ?_ _)); exact BK325.out) Tryd.underlying29 rfl (by kernel_rfl)) rfl ?_
   exact ⟨_, er, by (with_reducible repeat (first | apply Kd.V_alloc | apply Kd.V_drewN | apply Kd.V_drew)); exact Kd.V_mono (Kd.V_far (p := ⟨gb325, 2, none⟩) (Kd.V_far (p := ⟨gb325, 1, none⟩) (Kd.V_far (p := ⟨gb325, 0, none⟩) (Kd.V_mono HO0_1.out (fun k_ hk => (⟨hk, hk.2⟩ : _ ∧ k_ ≠ gb325))) (fun _ hk => hk.2) (.bool a0_0)) (fun _ hk => hk.2) (.slice A0_1 l0_1.length c0_1)) (fun _ hk => hk.2) (.int .i64 a0_2)) (fun _ hk => hk.1.1.1.1), bes⟩
  ·
   rw [if_neg c13] at H
   have c13b0 : ((l1_1.length : Int) == 0) = false := beq_eq_false_iff_ne.mpr c13
   have c13b1 : ((l1_1.length : Int) != 0) = true := bne_iff_ne.mpr c13
   have c13b2 : ¬ (l1_1 = []) := fun h_ => c13 (by rw [h_]; rfl)
   obtain ⟨⟨t326, t329, t332⟩, A230, H⟩ := Option.bind_eq_some_iff.mp H
   (try dsimp -simprocs only at H)
   have A23 := Aside0.mk A230
   clear A230
   by_cases c24 : (a0_0 == a1_0) = true
   ·
    rw [if_pos c24] at H
    have c24b0 : (a0_0 == a1_0) = true := c24
    (try (have c24b1 : decide (a0_0 = a1_0) = true := by simpa using c24))
    (try (have c24b2 : (a0_0 == a1_0) = true := by simpa using c24))
    clear c24
    have HC25 := Aside0.mk H
    clear H
    go_enter Tryd.func9, Tryd.ntmps9
    go_upto_if 41 with (first | ((with_reducible refine gate_dst (N := 2) rfl ?_); refine gbox (N := 2) (cs := #[.bool a0_0, .slice A0_1 l0_1.length c0_1, .int .i64 a0_2]) (t := 29) ?_; intro gb323 hg w26 hbox hb; refine ax6 (Kd.V_below (Kd.V_elderB (kv HO0_1) gb323 (Nat.le_of_eq hg.symm)) hb) (Kd.V_below (Kd.V_elderB (kv HO1_1) gb323 (Nat.le_of_eq hg.symm)) hb) (below_step bel hb) hbox ((ge hg : w.heap.size ≤ gb323)) ((ge hg : w.heap.size ≤ gb323)) ?_; clear HO0_1; clear HO1_1; clear HB; intro HO0_1 HO1_1 HB BK323 GW323 GE323; clear hb hbox hg) | ((with_reducible refine gate_dst (N := 3) rfl ?_); refine gbox (N := 3) (cs := #[.bool a1_0, .slice A1_1 l1_1.length c1_1, .int .i64 a1_2]) (t := 29) ?_; intro gb324 hg w27 hbox hb; refine ax9 (Kd.V_below (Kd.V_elderB (kv HO0_1) gb324 (Nat.le_of_eq hg.symm)) hb) (Kd.V_below (Kd.V_elderB (kv HO1_1) gb324 (Nat.le_of_eq hg.symm)) hb) (bb BK323 hb) (below_step bes hb) hbox ((ge hg : w.heap.size ≤ gb324)) ((ge hg : w.heap.size ≤ gb324)) (nl hg BK323) (ng hg BK323) ?_; clear HO0_1; clear HO1_1; clear BK323; clear HB; intro HO0_1 HO1_1 BK323 HB BK324 GW324 GE324 NB323_324 NB324_323; clear hb hbox hg) | ((with_reducible refine gate_dst (N := 4) rfl ?_); refine gbox (N := 4) (cs := #[.bool false, .slice none 0 0, .int .i64 0]) (t := 29) ?_; intro gb325 hg w28 hbox hb; refine ax12 (Kd.V_below (Kd.V_elderB (kv HO0_1) gb325 (Nat.le_of_eq hg.symm)) hb) (Kd.V_below (Kd.V_elderB (kv HO1_1) gb325 (Nat.le_of_eq hg.symm)) hb) (bb BK323 hb) (bb BK324 hb) (below_step bes hb) hbox ((ge hg : w.heap.size ≤ gb325)) ((ge hg : w.heap.size ≤ gb325)) (nl hg BK323) (ng hg BK323) (nl hg BK324) (ng hg BK324) ?_; clear HO0_1; clear HO1_1; clear BK323; clear BK324; clear HB; intro HO0_1 HO1_1 BK323 BK324 HB BK325 GW325 GE325 NB323_325 NB325_323 NB324_325 NB325_324; clear hb hbox hg; have hnb29 := NB323_324.out; have hnc29 := NB324_323.out; have hnb30 := NB323_325.out; have hnc30 := NB325_323.out; have hcz31_0 := bc BK323 0 rfl; have hcz31_1 := bc BK323 1 rfl; have hcz31_2 := bc BK323 2 rfl; have hfz31_0 := blk_frozen BK323.out 0; have hfz31_1 := blk_frozen BK323.out 1; have hfz31_2 := blk_frozen BK323.out 2; have hnb32 := NB324_325.out; have hnc32 := NB325_324.out; have hcz33_0 := bc BK324 0 rfl; have hcz33_1 := bc BK324 1 rfl; have hcz33_2 := bc BK324 2 rfl; have hfz33_0 := blk_frozen BK324.out 0; have hfz33_1 := blk_frozen BK324.out 1; have hfz33_2 := blk_frozen BK324.out 2) | ((with_reducible refine gate_callee (f := 30) rfl ?_); refine goesL_ (some 28) rfl rfl Tryd.func30 (by kernel_rfl) rfl #[.agg #[.bool a0_0, .slice A0_1 l0_1.length c0_1, .int .i64 a0_2], .agg #[.bool a1_0, .slice A1_1 l1_1.length c1_1, .int .i64 a1_2]] rfl ga ?_; (with_reducible refine (dyad_line.calls k a0_0 _ _ l0_1 a0_2 a1_0 _ _ l1_1 a1_2 t326 t329 t332 _ ?side1 ?side2 ?side3 ?side4 A23.out).mono ?_); (case side1 => exact kvs HO0_1); (case side2 => exact (Kd.V_reads' HO0_1.out).2.1); (case side3 => exact kvs HO1_1); (case side4 => exact (Kd.V_reads' HO1_1.out).2.1); rintro e w34 ⟨v327, v330, rfl, ho0, ho1, hb⟩; refine ⟨_, rfl, ?_⟩; refine ax8 (Kd.V_below (kv HO0_1) hb) (Kd.V_below (kv HO1_1) hb) (Kd.V_lower (Kd.V_mono (ok' := fun k_ => ((P0_1_ k_ ∨ P1_1_ k_) ∨ w.heap.size ≤ k_) ∧ k_ ≠ gb323 ∧ k_ ≠ gb324 ∧ k_ ≠ gb325) ho0 (fun k_ hk_ => ⟨(.inr (Nat.le_trans (below_size bes) hk_)), (fb BK323 k_ hk_), (fb BK324 k_ hk_), (fb BK325 k_ hk_)⟩)) (below_size bes)) (Kd.V_lower (Kd.V_mono (ok' := fun k_ => ((P0_1_ k_ ∨ P1_1_ k_) ∨ w.heap.size ≤ k_) ∧ k_ ≠ gb323 ∧ k_ ≠ gb324 ∧ k_ ≠ gb325) ho1 (fun k_ hk_ => ⟨(.inr (Nat.le_trans (below_size bes) hk_)), (fb BK323 k_ hk_), (fb BK324 k_ hk_), (fb BK325 k_ hk_)⟩)) (below_size bes)) (bb BK323 hb) (bb BK324 hb) (bb BK325 hb) (below_step bes hb) ?_; clear HO0_1; clear HO1_1; clear BK323; clear BK324; clear BK325; clear HB; intro HO0_1 HO1_1 HO328 HO331 BK323 BK324 BK325 HB; (try clear hb); (try clear ho0); (try clear ho1); have hcz35_0 := bc BK323 0 rfl; have hcz35_1 := bc BK323 1 rfl; have hcz35_2 := bc BK323 2 rfl; have hfz35_0 := blk_frozen BK323.out 0; have hfz35_1 := blk_frozen BK323.out 1; have hfz35_2 := blk_frozen BK323.out 2; have hcz36_0 := bc BK324 0 rfl; have hcz36_1 := bc BK324 1 rfl; have hcz36_2 := bc BK324 2 rfl; have hfz36_0 := blk_frozen BK324.out 0; have hfz36_1 := blk_frozen BK324.out 1; have hfz36_2 := blk_frozen BK324.out 2; obtain ⟨Ao37, co37, eo37⟩ := Kd.V_slice HO328.out; subst eo37; obtain ⟨Ao38, co38, eo38⟩ := Kd.V_slice HO331.out; subst eo38))
    (try simp only [Act.put, sa0, sa1, sa2])
    go_cut [5, 6] (fun v5 v6 wc => ∃ (kq : Nat) (x5_24 : List Int) (x6_24 : List Int), Aside0 (dyad_Num_Add.j0 kq x5_24 x6_24 t332 a0_0 l0_1 a0_2 = some (r1, r2, r3)) ∧ Aside0 (kq ≤ k) ∧ Aside0 (Kd.V (Kd.int .u32) 56 wc w.heap.size (fun k_ => ((P0_1_ k_ ∨ P1_1_ k_) ∨ w.heap.size ≤ k_) ∧ k_ ≠ gb323 ∧ k_ ≠ gb324 ∧ k_ ≠ gb325) v5 x5_24) ∧ Aside0 (Kd.V (Kd.int .u32) 56 wc w.heap.size (fun k_ => ((P0_1_ k_ ∨ P1_1_ k_) ∨ w.heap.size ≤ k_) ∧ k_ ≠ gb323 ∧ k_ ≠ gb324 ∧ k_ ≠ gb325) v6 x6_24) ∧ Aside0 (Kd.V (Kd.int .u32) 56 wc w.heap.size (fun k_ => ((P0_1_ k_ ∨ P1_1_ k_) ∨ w.heap.size ≤ k_) ∧ k_ ≠ gb323 ∧ k_ ≠ gb324 ∧ k_ ≠ gb325) (.slice A0_1 l0_1.length c0_1) l0_1) ∧ Aside0 (Kd.V (Kd.int .u32) 56 wc w.heap.size (fun k_ => ((P0_1_ k_ ∨ P1_1_ k_) ∨ w.heap.size ≤ k_) ∧ k_ ≠ gb323 ∧ k_ ≠ gb324 ∧ k_ ≠ gb325) (.slice A1_1 l1_1.length c1_1) l1_1) ∧ Aside0 (wc.heap[gb323]? = some (.cells #[.bool a0_0, (.slice A0_1 l0_1.length c0_1), .int .i64 a0_2] 29 (0, 0))) ∧ Aside0 (wc.heap[gb324]? = some (.cells #[.bool a1_0, (.slice A1_1 l1_1.length c1_1), .int .i64 a1_2] 29 (0, 0))) ∧ Aside0 (wc.heap[gb325]? = some (.cells #[.bool false, (.slice none 0 0), .int .i64 0] 29 (0, 0))) ∧ Aside0 (Below w.heap.size w wc))
    case first =>
     have H := HC25.out
     clear HC25
     by_cases c39 : (t326.length : Int) < (t329.length : Int)
     rotate_left
     ·
      rw [if_neg c39] at H
      have c39b0 : decide ((t326.length : Int) < (t329.length : Int)) = false := decide_eq_false c39
      have c39b1 : decide (t326.length < t329.length) = false := decide_eq_false (fun h => c39 (Int.ofNat_lt.mpr h))
      clear c39
      (first | rw [c39b0] | rw [c39b1] | (simp only [i64_w, i32_w]; first | rw [c39b0] | rw [c39b1]) | skip)
      have H' := Aside0.mk H
      clear H
      go_wp2
      go_meet
      case rel => exact ⟨_, (t326), (t329), H', ⟨by first | omega | exact Nat.le_refl _⟩, ⟨kv HO328⟩, ⟨kv HO331⟩, ⟨by (with_reducible repeat (first | apply Kd.V_alloc | apply Kd.V_drewN | apply Kd.V_drew)); exact Kd.V_mono HO0_1.out (fun _ hk => ⟨hk.1.1.1, ⟨hk.1.1.2, ⟨hk.1.2, hk.2⟩⟩⟩)⟩, ⟨by (with_reducible repeat (first | apply Kd.V_alloc | apply Kd.V_drewN | apply Kd.V_drew)); exact Kd.V_mono HO1_1.out (fun _ hk => ⟨hk.1.1.1, ⟨hk.1.1.2, ⟨hk.1.2, hk.2⟩⟩⟩)⟩, ⟨kb BK323⟩, ⟨kb BK324⟩, ⟨kb BK325⟩, ⟨bes⟩⟩
     rw [if_pos c39] at H
     have c39b0 : decide ((t326.length : Int) < (t329.length : Int)) = true := decide_eq_true c39
     have c39b1 : decide (t326.length < t329.length) = true := decide_eq_true (Int.ofNat_lt.mp c39)
     clear c39
     (first | rw [c39b0] | rw [c39b1] | (simp only [i64_w, i32_w]; first | rw [c39b0] | rw [c39b1]) | skip)
     have H' := Aside0.mk H
     clear H
     go_wp2
     go_meet
     case rel => exact ⟨_, (t329), (t326), H', ⟨by first | omega | exact Nat.le_refl _⟩, ⟨kv HO331⟩, ⟨kv HO328⟩, ⟨by (with_reducible repeat (first | apply Kd.V_alloc | apply Kd.V_drewN | apply Kd.V_drew)); exact Kd.V_mono HO0_1.out (fun _ hk => ⟨hk.1.1.1, ⟨hk.1.1.2, ⟨hk.1.2, hk.2⟩⟩⟩)⟩, ⟨by (with_reducible repeat (first | apply Kd.V_alloc | apply Kd.V_drewN | apply Kd.V_drew)); exact Kd.V_mono HO1_1.out (fun _ hk => ⟨hk.1.1.1, ⟨hk.1.1.2, ⟨hk.1.2, hk.2⟩⟩⟩)⟩, ⟨kb BK323⟩, ⟨kb BK324⟩, ⟨kb BK325⟩, ⟨bes⟩⟩
    case rest =>
     clear HC25
     try clear c1
     try clear c2
     try clear p2
     try clear c3
     try clear c3b0
     try clear c3b1
     try clear c3b2
     try clear c7
     try clear c8
     try clear c9
     try clear c10
     try clear c13
     try clear c13b0
     try clear c13b1
     try clear c13b2
     try clear c17
     try clear c18
     try clear c20
     try clear c24
     try clear c24b0
     try clear c24b1
     try clear c24b2
     try clear c29
     try clear c30
     try clear c32
     try clear c39
     try clear c39b0
     try clear c39b1
     try clear hcz11_0
     try clear hcz11_1
     try clear hcz11_2
     try clear hcz12_0
     try clear hcz12_1
     try clear hcz12_2
     try clear hcz19_0
     try clear hcz19_1
     try clear hcz19_2
     try clear hcz21_0
     try clear hcz21_1
     try clear hcz21_2
     try clear hcz22_0
     try clear hcz22_1
     try clear hcz22_2
     try clear hcz31_0
     try clear hcz31_1
     try clear hcz31_2
     try clear hcz33_0
     try clear hcz33_1
     try clear hcz33_2
     try clear hcz35_0
     try clear hcz35_1
     try clear hcz35_2
     try clear hcz36_0
     try clear hcz36_1
     try clear hcz36_2
     try clear hcz9_0
     try clear hcz9_1
     try clear hcz9_2
     try clear hfz11_0
     try clear hfz11_1
     try clear hfz11_2
     try clear hfz12_0
     try clear hfz12_1
     try clear hfz12_2
     try clear hfz19_0
     try clear hfz19_1
     try clear hfz19_2
     try clear hfz21_0
     try clear hfz21_1
     try clear hfz21_2
     try clear hfz22_0
     try clear hfz22_1
     try clear hfz22_2
     try clear hfz31_0
     try clear hfz31_1
     try clear hfz31_2
     try clear hfz33_0
     try clear hfz33_1
     try clear hfz33_2
     try clear hfz35_0
     try clear hfz35_1
     try clear hfz35_2
     try clear hfz36_0
     try clear hfz36_1
     try clear hfz36_2
     try clear hfz9_0
     try clear hfz9_1
     try clear hfz9_2
     obtain ⟨kq, x5_24, x6_24, HA, HJ24, HO_5, HO_6, HO_324001, HO_325001, BK323, BK324, BK325, HB⟩ := hcut
     cases kq with
     | zero => exact absurd HA.out (by simp [dyad_Num_Add.j0])
     | succ kj24 =>
      have H := HA.out
      clear HA
      simp only [dyad_Num_Add.j0] at H
      obtain ⟨ji40, hji40⟩ : ∃ j_ : Int, (wrap64 ((x5_24.length : Int) + 1)) = j_ := ⟨_, rfl⟩
      replace H : (if 0 ≤ (ji40) then (if (ji40 : Int).toNat ≤ 70368744177664 then (dyad_Num_Add.l0 kj24 x5_24 x6_24 t332 (List.replicate 0 0) 0 (x5_24.length : Int) 0 a0_0 l0_1 a0_2) else (none)) else (none)) = some (r1, r2, r3) := by first | (rw [hji40] at H; exact H) | (simp only [hji40] at H ⊢; exact H)
      have hji40w : (IntKind.i64.wrap ((x5_24.length : Int) + 1)) = ji40 := (i64_w _).trans hji40
      by_cases c41 : 0 ≤ (ji40)
      rotate_left
      ·
       rw [if_neg c41] at H
       exact absurd H (by simp)
      rw [if_pos c41] at H
      have c41b0 := eq_true c41
      have c41b1 : decide (0 ≤ (ji40)) = true := decide_eq_true c41
      clear c41
      by_cases c42 : (ji40 : Int).toNat ≤ 70368744177664
      rotate_left
      ·
       rw [if_neg c42] at H
       exact absurd H (by simp)
      rw [if_pos c42] at H
      have c42b0 := eq_true c42
      have c42b1 : decide ((ji40 : Int).toNat ≤ 70368744177664) = true := decide_eq_true c42
      clear c42
      obtain ⟨y333, hy333⟩ : ∃ y_ : List Int, y_ = (List.replicate 0 0) := ⟨_, rfl⟩
      replace H : (dyad_Num_Add.l0 kj24 x5_24 x6_24 t332 y333 0 (x5_24.length : Int) 0 a0_0 l0_1 a0_2) = some (r1, r2, r3) := by first | (rw [hy333]; with_reducible exact H) | (have H2_ := (Option.bind_some _ _).symm.trans H; rw [hy333]; with_reducible exact H2_) | (have H2_ := (Option.bind_some _ _).symm.trans H; with_reducible exact H2_) | with_reducible exact H | (rw [hy333]; exact H) | exact H
      have Ny333 := Aside0.mk hy333
      clear hy333
      have H' := Aside0.mk H
      clear H
      obtain ⟨Ao43, co43, eo43⟩ := Kd.V_slice HO_5.out
      subst eo43
      go_wp2_with (first | ((with_reducible refine gate_dst (N := 47) rfl ?_); refine Kd.R_makeC (Kd.int .u32) _ 56 rfl (N := 47) rfl 27 _ _ rfl 0 ji40 rfl rfl Tryd.underlying27 (.int .u32 0) 4 info56 rfl (by decide) (by omega) 0 (ok := fun _ => True) (okp := fun _ => True) rfl (fun _ hk => hk) trivial (by omega) (of_decide_eq_true (by first | (with_reducible assumption) | assumption)) (Nat.le_trans (Nat.mul_le_mul_right _ (of_decide_eq_true (by first | (with_reducible assumption) | assumption) : ji40.toNat ≤ 70368744177664)) (by omega)) (Below.refl _ _) (Nat.le_refl _) ?_; intro v334 w44 ho45 hb hg_ hnew_; clear hg_ hnew_; (first | rw [← Ny333.out] at ho45 | (simp only [Int.reduceToNat] at ho45; rw [← Ny333.out] at ho45)); refine ax9 (Kd.V_elder' (kv HO_5) (Kd.R_base ho45) hb) (Kd.V_elder' (kv HO_6) (Kd.R_base ho45) hb) (Kd.V_elder' (kv HO_324001) (Kd.R_base ho45) hb) (Kd.V_elder' (kv HO_325001) (Kd.R_base ho45) hb) (Kd.R_lower (Kd.R_newM (M := fun k_ => (w.heap.size ≤ k_)) ho45 (below_size bes) (fun k_ h_ => h_)) (below_size bes)) (bb BK323 hb) (bb BK324 hb) (bb BK325 hb) (below_step bes hb) ?_; clear HO_5; clear HO_6; clear HO_324001; clear HO_325001; clear BK323; clear BK324; clear BK325; clear HB; intro HO_5 HO_6 HO_324001 HO_325001 HO335 BK323 BK324 BK325 HB; clear hb ho45))
      go_loopg [8, 9, 50] kj24 (fun kq v8 v9 v50 w' => ∃ (x8_2 : List Int) (x9_2 : Int) (x50_2 : Int), v9 = .int .u64 x9_2 ∧ v50 = .int .i64 x50_2 ∧ Aside0 (dyad_Num_Add.l0 kq x5_24 x6_24 t332 x8_2 x9_2 (x5_24.length : Int) x50_2 a0_0 l0_1 a0_2 = some (r1, r2, r3)) ∧ Aside0 (kq ≤ kj24) ∧ Aside0 (Kd.V (Kd.int .u32) 56 w' w.heap.size (fun k_ => ((P0_1_ k_ ∨ P1_1_ k_) ∨ w.heap.size ≤ k_) ∧ some k_ ≠ (v8 : Value).ownBlock ∧ k_ ≠ gb323 ∧ k_ ≠ gb324 ∧ k_ ≠ gb325) (.slice Ao43 x5_24.length co43) x5_24) ∧ Aside0 (Kd.V (Kd.int .u32) 56 w' w.heap.size (fun k_ => ((P0_1_ k_ ∨ P1_1_ k_) ∨ w.heap.size ≤ k_) ∧ some k_ ≠ (v8 : Value).ownBlock ∧ k_ ≠ gb323 ∧ k_ ≠ gb324 ∧ k_ ≠ gb325) u6 x6_24) ∧ Aside0 (Kd.R (Kd.int .u32) 56 w' w.heap.size (fun k_ => (w.heap.size ≤ k_)) v8 x8_2) ∧ Aside0 (Kd.V (Kd.int .u32) 56 w' w.heap.size (fun k_ => ((P0_1_ k_ ∨ P1_1_ k_) ∨ w.heap.size ≤ k_) ∧ some k_ ≠ (v8 : Value).ownBlock ∧ k_ ≠ gb323 ∧ k_ ≠ gb324 ∧ k_ ≠ gb325) (.slice A0_1 l0_1.length c0_1) l0_1) ∧ Aside0 (Kd.V (Kd.int .u32) 56 w' w.heap.size (fun k_ => ((P0_1_ k_ ∨ P1_1_ k_) ∨ w.heap.size ≤ k_) ∧ some k_ ≠ (v8 : Value).ownBlock ∧ k_ ≠ gb323 ∧ k_ ≠ gb324 ∧ k_ ≠ gb325) (.slice A1_1 l1_1.length c1_1) l1_1) ∧ Aside0 (w'.heap[gb323]? = some (.cells #[.bool a0_0, (.slice A0_1 l0_1.length c0_1), .int .i64 a0_2] 29 (0, 0))) ∧ Aside0 (w'.heap[gb324]? = some (.cells #[.bool a1_0, (.slice A1_1 l1_1.length c1_1), .int .i64 a1_2] 29 (0, 0))) ∧ Aside0 (w'.heap[gb325]? = some (.cells #[.bool false, (.slice none 0 0), .int .i64 0] 29 (0, 0))) ∧ Aside0 (Below w.heap.size w w'))
      case atStart => exact ⟨(y333), (0), (0), (by first | rfl | (simp; done) | (simp [*]; done)), (by first | rfl | (simp; done) | (simp [*]; done)), H', ⟨Nat.le_refl _⟩, ⟨by (with_reducible repeat (first | apply Kd.V_alloc | apply Kd.V_drewN | apply Kd.V_drew)); exact Kd.V_mono HO_5.out (fun _ hk => ⟨hk.1.1, ⟨hk.2, ⟨hk.1.2.1, ⟨hk.1.2.2.1, hk.1.2.2.2⟩⟩⟩⟩)⟩, ⟨by (with_reducible repeat (first | apply Kd.V_alloc | apply Kd.V_drewN | apply Kd.V_drew)); exact Kd.V_mono HO_6.out (fun _ hk => ⟨hk.1.1, ⟨hk.2, ⟨hk.1.2.1, ⟨hk.1.2.2.1, hk.1.2.2.2⟩⟩⟩⟩)⟩, ⟨by (with_reducible repeat (first | apply Kd.R_alloc | apply Kd.R_drewN | apply Kd.R_drew)); exact Kd.R_mono HO335.out (fun _ hk => hk.1)⟩, ⟨by (with_reducible repeat (first | apply Kd.V_alloc | apply Kd.V_drewN | apply Kd.V_drew)); exact Kd.V_mono HO_324001.out (fun _ hk => ⟨hk.1.1, ⟨hk.2, ⟨hk.1.2.1, ⟨hk.1.2.2.1, hk.1.2.2.2⟩⟩⟩⟩)⟩, ⟨by (with_reducible repeat (first | apply Kd.V_alloc | apply Kd.V_drewN | apply Kd.V_drew)); exact Kd.V_mono HO_325001.out (fun _ hk => ⟨hk.1.1, ⟨hk.2, ⟨hk.1.2.1, ⟨hk.1.2.2.1, hk.1.2.2.2⟩⟩⟩⟩)⟩, ⟨kb BK323⟩, ⟨kb BK324⟩, ⟨kb BK325⟩, ⟨bes⟩⟩
      case round =>
       clear H'
       try clear c1
       try clear c2
       try clear p2
       try clear c3
       try clear c3b0
       try clear c3b1
       try clear c3b2
       try clear c4
       try clear p6
       try clear c7
       try clear c8
       try clear c9
       try clear c10
       try clear c13
       try clear c13b0
       try clear c13b1
       try clear c13b2
       try clear c17
       try clear c18
       try clear c20
       try clear c24
       try clear c24b0
       try clear c24b1
       try clear c24b2
       try clear c29
       try clear c30
       try clear c32
       try clear c39
       try clear c39b0
       try clear c39b1
       try clear c41
       try clear c41b0
       try clear c41b1
       try clear c42
       try clear c42b0
       try clear c42b1
       try clear hcz11_0
       try clear hcz11_1
       try clear hcz11_2
       try clear hcz12_0
       try clear hcz12_1
       try clear hcz12_2
       try clear hcz19_0
       try clear hcz19_1
       try clear hcz19_2
       try clear hcz21_0
       try clear hcz21_1
       try clear hcz21_2
       try clear hcz22_0
       try clear hcz22_1
       try clear hcz22_2
       try clear hcz31_0
       try clear hcz31_1
       try clear hcz31_2
       try clear hcz33_0
       try clear hcz33_1
       try clear hcz33_2
       try clear hcz35_0
       try clear hcz35_1
       try clear hcz35_2
       try clear hcz36_0
       try clear hcz36_1
       try clear hcz36_2
       try clear hcz9_0
       try clear hcz9_1
       try clear hcz9_2
       try clear hfz11_0
       try clear hfz11_1
       try clear hfz11_2
       try clear hfz12_0
       try clear hfz12_1
       try clear hfz12_2
       try clear hfz19_0
       try clear hfz19_1
       try clear hfz19_2
       try clear hfz21_0
       try clear hfz21_1
       try clear hfz21_2
       try clear hfz22_0
       try clear hfz22_1
       try clear hfz22_2
       try clear hfz31_0
       try clear hfz31_1
       try clear hfz31_2
       try clear hfz33_0
       try clear hfz33_1
       try clear hfz33_2
       try clear hfz35_0
       try clear hfz35_1
       try clear hfz35_2
       try clear hfz36_0
       try clear hfz36_1
       try clear hfz36_2
       try clear hfz9_0
       try clear hfz9_1
       try clear hfz9_2
       try clear p2
       obtain ⟨x8_2, x9_2, x50_2, rfl, rfl, HA, HK2, HO_5, HO_6, HO_8, HO_324001, HO_325001, BK323, BK324, BK325, HB⟩ := hrel
       cases gk with
       | zero => exact absurd HA.out (by simp [dyad_Num_Add.l0])
       | succ k2 =>
        have H := HA.out
        clear HA
        simp only [dyad_Num_Add.l0] at H
        by_cases c46 : x50_2 < (x5_24.length : Int)
        ·
         rw [if_pos c46] at H
         have c46b0 : decide (x50_2 < (x5_24.length : Int)) = true := decide_eq_true c46
         clear c46
         by_cases c47 : 0 ≤ x50_2
         rotate_left
         ·
          rw [if_neg c47] at H
          exact absurd H (by simp)
         rw [if_pos c47] at H
         have c47b0 : decide (0 ≤ x50_2) = true := decide_eq_true c47
         clear c47
         by_cases c48 : x50_2 < (x5_24.length : Int)
         rotate_left
         ·
          rw [if_neg c48] at H
          exact absurd H (by simp)
         rw [if_pos c48] at H
         have c48b0 : decide (x50_2 < (x5_24.length : Int)) = true := decide_eq_true c48
         clear c48
         by_cases c49 : x50_2 < (x6_24.length : Int)
         ·
          rw [if_pos c49] at H
          have c49b0 : decide (x50_2 < (x6_24.length : Int)) = true := decide_eq_true c49
          clear c49
          by_cases c50 : x8_2.length < 35184372088832
          rotate_left
          ·
           rw [if_neg c50] at H
           exact absurd H (by simp)
          rw [if_pos c50] at H
          have LMc50 := Aside0.mk c50
          clear c50
          obtain ⟨y338, hy338⟩ : ∃ y_ : List Int, y_ = (x8_2 ++ [(IntKind.u64.wrap ((IntKind.u64.wrap (x9_2 + (IntKind.u64.wrap (rd x5_24 x50_2)))) + (IntKind.u64.wrap (rd x6_24 x50_2)))) % 4294967296]) := ⟨_, rfl⟩
          replace H : (dyad_Num_Add.l0 k2 x5_24 x6_24 t332 y338 ((IntKind.u64.wrap ((IntKind.u64.wrap (x9_2 + (IntKind.u64.wrap (rd x5_24 x50_2)))) + (IntKind.u64.wrap (rd x6_24 x50_2)))) / 4294967296) (x5_24.length : Int) (wrap64 (x50_2 + 1)) a0_0 l0_1 a0_2) = some (r1, r2, r3) := by first | (rw [hy338]; with_reducible exact H) | (have H2_ := (Option.bind_some _ _).symm.trans H; rw [hy338]; with_reducible exact H2_) | (have H2_ := (Option.bind_some _ _).symm.trans H; with_reducible exact H2_) | with_reducible exact H | (rw [hy338]; exact H) | exact H
          have Ny338 := Aside0.mk hy338
          clear hy338
          have H' := Aside0.mk H
          clear H
          have p336 : 0 ≤ (x50_2 : Int) := of_decide_eq_true (by first | (with_reducible assumption) | assumption)
          have q336 : x50_2 < (x5_24.length : Int) := of_decide_eq_true (by first | (with_reducible assumption) | assumption)
          obtain ⟨ad336, e336, hx336_0⟩ := Kd.at_int (Kd.V_reads' HO_5.out).2.2 x50_2 p336 q336
          cases e336
          replace p336 := eq_true p336
          replace q336 := eq_true q336
          obtain ⟨Ao51, co51, eo51⟩ := Kd.V_slice HO_6.out
          subst eo51
          have p337 : 0 ≤ (x50_2 : Int) := of_decide_eq_true (by first | (with_reducible assumption) | assumption)
          have q337 : x50_2 < (x6_24.length : Int) := of_decide_eq_true (by first | (with_reducible assumption) | assumption)
          obtain ⟨ad337, e337, hx337_0⟩ := Kd.at_int (Kd.V_reads' HO_6.out).2.2 x50_2 p337 q337
          cases e337
          replace p337 := eq_true p337
          replace q337 := eq_true q337
          go_wp2_with (first | ((with_reducible refine gate_builtin (b := .append) (xs := #[.tmp 71, .tmp 74]) rfl ?_); at_builtin; refine Kd.R_append (Kd.int .u32) (w0 := w) w.heap.size rfl (.tmp 71) (.tmp 74) 27 56 (.int .u32 0) 4 rfl Tryd.underlying27 info56 rfl (by decide) (by omega) u8 x8_2 ((IntKind.u64.wrap ((IntKind.u64.wrap (x9_2 + (IntKind.u64.wrap (rd x5_24 x50_2)))) + (IntKind.u64.wrap (rd x6_24 x50_2)))) % 4294967296) [.int .u32 ((IntKind.u64.wrap ((IntKind.u64.wrap (x9_2 + (IntKind.u64.wrap (rd x5_24 x50_2)))) + (IntKind.u64.wrap (rd x6_24 x50_2)))) % 4294967296)] (fun k_ => (w.heap.size ≤ k_)) (fun _ => False) rfl rfl ?aP (fun _ hk => hk.elim) ?aF ?aO ?aB ?aS ?aL ?_; (case aP => exact rfl); (case aB => exact bes); (case aF => exact (fun k_ hk => (Nat.le_trans (below_size bes) hk))); (case aO => exact (kr HO_8)); (case aS => exact (below_size bes)); (case aL => have := LMc50.out; omega); intro v339 w52 ho hb hg hat; rw [← Ny338.out] at ho; refine ax9 (Kd.V_afterv (ok := (fun k_ => ((P0_1_ k_ ∨ P1_1_ k_) ∨ w.heap.size ≤ k_) ∧ k_ ≠ gb323 ∧ k_ ≠ gb324 ∧ k_ ≠ gb325)) (by (with_reducible repeat (first | apply Kd.V_alloc | apply Kd.V_drewN | apply Kd.V_drew)); exact Kd.V_mono HO_5.out (fun _ hk => ⟨⟨hk.1, ⟨hk.2.2.1, ⟨hk.2.2.2.1, hk.2.2.2.2⟩⟩⟩, hk.2.1⟩)) hg hat) (Kd.V_afterv (ok := (fun k_ => ((P0_1_ k_ ∨ P1_1_ k_) ∨ w.heap.size ≤ k_) ∧ k_ ≠ gb323 ∧ k_ ≠ gb324 ∧ k_ ≠ gb325)) (by (with_reducible repeat (first | apply Kd.V_alloc | apply Kd.V_drewN | apply Kd.V_drew)); exact Kd.V_mono HO_6.out (fun _ hk => ⟨⟨hk.1, ⟨hk.2.2.1, ⟨hk.2.2.2.1, hk.2.2.2.2⟩⟩⟩, hk.2.1⟩)) hg hat) (Kd.V_afterv (ok := (fun k_ => ((P0_1_ k_ ∨ P1_1_ k_) ∨ w.heap.size ≤ k_) ∧ k_ ≠ gb323 ∧ k_ ≠ gb324 ∧ k_ ≠ gb325)) (by (with_reducible repeat (first | apply Kd.V_alloc | apply Kd.V_drewN | apply Kd.V_drew)); exact Kd.V_mono HO_324001.out (fun _ hk => ⟨⟨hk.1, ⟨hk.2.2.1, ⟨hk.2.2.2.1, hk.2.2.2.2⟩⟩⟩, hk.2.1⟩)) hg hat) (Kd.V_afterv (ok := (fun k_ => ((P0_1_ k_ ∨ P1_1_ k_) ∨ w.heap.size ≤ k_) ∧ k_ ≠ gb323 ∧ k_ ≠ gb324 ∧ k_ ≠ gb325)) (by (with_reducible repeat (first | apply Kd.V_alloc | apply Kd.V_drewN | apply Kd.V_drew)); exact Kd.V_mono HO_325001.out (fun _ hk => ⟨⟨hk.1, ⟨hk.2.2.1, ⟨hk.2.2.2.1, hk.2.2.2.2⟩⟩⟩, hk.2.1⟩)) hg hat) (blk_grown (g := gb323) (o := .cells #[.bool a0_0, .slice A0_1 l0_1.length c0_1, .int .i64 a0_2] 29 (0, 0)) (kb BK323) hg (Kd.R_ne HO_8.out BK323.out (by decide))) (blk_grown (g := gb324) (o := .cells #[.bool a1_0, .slice A1_1 l1_1.length c1_1, .int .i64 a1_2] 29 (0, 0)) (kb BK324) hg (Kd.R_ne HO_8.out BK324.out (by decide))) (blk_grown (g := gb325) (o := .cells #[.bool false, .slice none 0 0, .int .i64 0] 29 (0, 0)) (kb BK325) hg (Kd.R_ne HO_8.out BK325.out (by decide))) hb ho ?_; clear HO_5; clear HO_6; clear HO_324001; clear HO_325001; clear BK323; clear BK324; clear BK325; clear HB; clear HO_8; intro HO_5 HO_6 HO_324001 HO_325001 BK323 BK324 BK325 HB HO340; clear ho hb hg hat))
          go_roundg k2
          case measure => have := HJ24.out; have := HK2.out; omega
          case rel => exact ⟨(y338), ((IntKind.u64.wrap ((IntKind.u64.wrap (x9_2 + (IntKind.u64.wrap (rd x5_24 x50_2)))) + (IntKind.u64.wrap (rd x6_24 x50_2)))) / 4294967296), (wrap64 (x50_2 + 1)), (by first | rfl | (simp; done) | (simp [*]; done)), (by first | rfl | (simp; done) | (simp [*]; done)), H', ⟨by have := HJ24.out; have := HK2.out; omega⟩, ⟨by (with_reducible repeat (first | apply Kd.V_alloc | apply Kd.V_drewN | apply Kd.V_drew)); exact Kd.V_mono HO_5.out (fun _ hk => ⟨hk.1.1, ⟨hk.2, ⟨hk.1.2.1, ⟨hk.1.2.2.1, hk.1.2.2.2⟩⟩⟩⟩)⟩, ⟨by (with_reducible repeat (first | apply Kd.V_alloc | apply Kd.V_drewN | apply Kd.V_drew)); exact Kd.V_mono HO_6.out (fun _ hk => ⟨hk.1.1, ⟨hk.2, ⟨hk.1.2.1, ⟨hk.1.2.2.1, hk.1.2.2.2⟩⟩⟩⟩)⟩, ⟨kr HO340⟩, ⟨by (with_reducible repeat (first | apply Kd.V_alloc | apply Kd.V_drewN | apply Kd.V_drew)); exact Kd.V_mono HO_324001.out (fun _ hk => ⟨hk.1.1, ⟨hk.2, ⟨hk.1.2.1, ⟨hk.1.2.2.1, hk.1.2.2.2⟩⟩⟩⟩)⟩, ⟨by (with_reducible repeat (first | apply Kd.V_alloc | apply Kd.V_drewN | apply Kd.V_drew)); exact Kd.V_mono HO_325001.out (fun _ hk => ⟨hk.1.1, ⟨hk.2, ⟨hk.1.2.1, ⟨hk.1.2.2.1, hk.1.2.2.2⟩⟩⟩⟩)⟩, ⟨kb BK323⟩, ⟨kb BK324⟩, ⟨kb BK325⟩, ⟨bes⟩⟩
         ·
          rw [if_neg c49] at H
          have c49b0 : decide (x50_2 < (x6_24.length : Int)) = false := decide_eq_false c49
          clear c49
          by_cases c53 : x8_2.length < 35184372088832
          rotate_left
          ·
           rw [if_neg c53] at H
           exact absurd H (by simp)
          rw [if_pos c53] at H
          have LMc53 := Aside0.mk c53
          clear c53
          obtain ⟨y341, hy341⟩ : ∃ y_ : List Int, y_ = (x8_2 ++ [(IntKind.u64.wrap (x9_2 + (IntKind.u64.wrap (rd x5_24 x50_2)))) % 4294967296]) := ⟨_, rfl⟩
          replace H : (dyad_Num_Add.l0 k2 x5_24 x6_24 t332 y341 ((IntKind.u64.wrap (x9_2 + (IntKind.u64.wrap (rd x5_24 x50_2)))) / 4294967296) (x5_24.length : Int) (wrap64 (x50_2 + 1)) a0_0 l0_1 a0_2) = some (r1, r2, r3) := by first | (rw [hy341]; with_reducible exact H) | (have H2_ := (Option.bind_some _ _).symm.trans H; rw [hy341]; with_reducible exact H2_) | (have H2_ := (Option.bind_some _ _).symm.trans H; with_reducible exact H2_) | with_reducible exact H | (rw [hy341]; exact H) | exact H
          have Ny341 := Aside0.mk hy341
          clear hy341
          have H' := Aside0.mk H
          clear H
          have p336 : 0 ≤ (x50_2 : Int) := of_decide_eq_true (by first | (with_reducible assumption) | assumption)
          have q336 : x50_2 < (x5_24.length : Int) := of_decide_eq_true (by first | (with_reducible assumption) | assumption)
          obtain ⟨ad336, e336, hx336_0⟩ := Kd.at_int (Kd.V_reads' HO_5.out).2.2 x50_2 p336 q336
          cases e336
          replace p336 := eq_true p336
          replace q336 := eq_true q336
          obtain ⟨Ao54, co54, eo54⟩ := Kd.V_slice HO_6.out
          subst eo54
          go_wp2_with (first | ((with_reducible refine gate_builtin (b := .append) (xs := #[.tmp 71, .tmp 74]) rfl ?_); at_builtin; refine Kd.R_append (Kd.int .u32) (w0 := w) w.heap.size rfl (.tmp 71) (.tmp 74) 27 56 (.int .u32 0) 4 rfl Tryd.underlying27 info56 rfl (by decide) (by omega) u8 x8_2 ((IntKind.u64.wrap (x9_2 + (IntKind.u64.wrap (rd x5_24 x50_2)))) % 4294967296) [.int .u32 ((IntKind.u64.wrap (x9_2 + (IntKind.u64.wrap (rd x5_24 x50_2)))) % 4294967296)] (fun k_ => (w.heap.size ≤ k_)) (fun _ => False) rfl rfl ?aP (fun _ hk => hk.elim) ?aF ?aO ?aB ?aS ?aL ?_; (case aP => exact rfl); (case aB => exact bes); (case aF => exact (fun k_ hk => (Nat.le_trans (below_size bes) hk))); (case aO => exact (kr HO_8)); (case aS => exact (below_size bes)); (case aL => have := LMc53.out; omega); intro v342 w55 ho hb hg hat; rw [← Ny341.out] at ho; refine ax9 (Kd.V_afterv (ok := (fun k_ => ((P0_1_ k_ ∨ P1_1_ k_) ∨ w.heap.size ≤ k_) ∧ k_ ≠ gb323 ∧ k_ ≠ gb324 ∧ k_ ≠ gb325)) (by (with_reducible repeat (first | apply Kd.V_alloc | apply Kd.V_drewN | apply Kd.V_drew)); exact Kd.V_mono HO_5.out (fun _ hk => ⟨⟨hk.1, ⟨hk.2.2.1, ⟨hk.2.2.2.1, hk.2.2.2.2⟩⟩⟩, hk.2.1⟩)) hg hat) (Kd.V_afterv (ok := (fun k_ => ((P0_1_ k_ ∨ P1_1_ k_) ∨ w.heap.size ≤ k_) ∧ k_ ≠ gb323 ∧ k_ ≠ gb324 ∧ k_ ≠ gb325)) (by (with_reducible repeat (first | apply Kd.V_alloc | apply Kd.V_drewN | apply Kd.V_drew)); exact Kd.V_mono HO_6.out (fun _ hk => ⟨⟨hk.1, ⟨hk.2.2.1, ⟨hk.2.2.2.1, hk.2.2.2.2⟩⟩⟩, hk.2.1⟩)) hg hat) (Kd.V_afterv (ok := (fun k_ => ((P0_1_ k_ ∨ P1_1_ k_) ∨ w.heap.size ≤ k_) ∧ k_ ≠ gb323 ∧ k_ ≠ gb324 ∧ k_ ≠ gb325)) (by (with_reducible repeat (first | apply Kd.V_alloc | apply Kd.V_drewN | apply Kd.V_drew)); exact Kd.V_mono HO_324001.out (fun _ hk => ⟨⟨hk.1, ⟨hk.2.2.1, ⟨hk.2.2.2.1, hk.2.2.2.2⟩⟩⟩, hk.2.1⟩)) hg hat) (Kd.V_afterv (ok := (fun k_ => ((P0_1_ k_ ∨ P1_1_ k_) ∨ w.heap.size ≤ k_) ∧ k_ ≠ gb323 ∧ k_ ≠ gb324 ∧ k_ ≠ gb325)) (by (with_reducible repeat (first | apply Kd.V_alloc | apply Kd.V_drewN | apply Kd.V_drew)); exact Kd.V_mono HO_325001.out (fun _ hk => ⟨⟨hk.1, ⟨hk.2.2.1, ⟨hk.2.2.2.1, hk.2.2.2.2⟩⟩⟩, hk.2.1⟩)) hg hat) (blk_grown (g := gb323) (o := .cells #[.bool a0_0, .slice A0_1 l0_1.length c0_1, .int .i64 a0_2] 29 (0, 0)) (kb BK323) hg (Kd.R_ne HO_8.out BK323.out (by decide))) (blk_grown (g := gb324) (o := .cells #[.bool a1_0, .slice A1_1 l1_1.length c1_1, .int .i64 a1_2] 29 (0, 0)) (kb BK324) hg (Kd.R_ne HO_8.out BK324.out (by decide))) (blk_grown (g := gb325) (o := .cells #[.bool false, .slice none 0 0, .int .i64 0] 29 (0, 0)) (kb BK325) hg (Kd.R_ne HO_8.out BK325.out (by decide))) hb ho ?_; clear HO_5; clear HO_6; clear HO_324001; clear HO_325001; clear BK323; clear BK324; clear BK325; clear HB; clear HO_8; intro HO_5 HO_6 HO_324001 HO_325001 BK323 BK324 BK325 HB HO343; clear ho hb hg hat))
          go_roundg k2
          case measure => have := HJ24.out; have := HK2.out; omega
          case rel => exact ⟨(y341), ((IntKind.u64.wrap (x9_2 + (IntKind.u64.wrap (rd x5_24 x50_2)))) / 4294967296), (wrap64 (x50_2 + 1)), (by first | rfl | (simp; done) | (simp [*]; done)), (by first | rfl | (simp; done) | (simp [*]; done)), H', ⟨by have := HJ24.out; have := HK2.out; omega⟩, ⟨by (with_reducible repeat (first | apply Kd.V_alloc | apply Kd.V_drewN | apply Kd.V_drew)); exact Kd.V_mono HO_5.out (fun _ hk => ⟨hk.1.1, ⟨hk.2, ⟨hk.1.2.1, ⟨hk.1.2.2.1, hk.1.2.2.2⟩⟩⟩⟩)⟩, ⟨by (with_reducible repeat (first | apply Kd.V_alloc | apply Kd.V_drewN | apply Kd.V_drew)); exact Kd.V_mono HO_6.out (fun _ hk => ⟨hk.1.1, ⟨hk.2, ⟨hk.1.2.1, ⟨hk.1.2.2.1, hk.1.2.2.2⟩⟩⟩⟩)⟩, ⟨kr HO343⟩, ⟨by (with_reducible repeat (first | apply Kd.V_alloc | apply Kd.V_drewN | apply Kd.V_drew)); exact Kd.V_mono HO_324001.out (fun _ hk => ⟨hk.1.1, ⟨hk.2, ⟨hk.1.2.1, ⟨hk.1.2.2.1, hk.1.2.2.2⟩⟩⟩⟩)⟩, ⟨by (with_reducible repeat (first | apply Kd.V_alloc | apply Kd.V_drewN | apply Kd.V_drew)); exact Kd.V_mono HO_325001.out (fun _ hk => ⟨hk.1.1, ⟨hk.2, ⟨hk.1.2.1, ⟨hk.1.2.2.1, hk.1.2.2.2⟩⟩⟩⟩)⟩, ⟨kb BK323⟩, ⟨kb BK324⟩, ⟨kb BK325⟩, ⟨bes⟩⟩
        ·
         rw [if_neg c46] at H
         have c46b0 : decide (x50_2 < (x5_24.length : Int)) = false := decide_eq_false c46
         clear c46
         by_cases c56 : x8_2.length < 35184372088832
         rotate_left
         ·
          rw [if_neg c56] at H
          exact absurd H (by simp)
         rw [if_pos c56] at H
         have LMc56 := Aside0.mk c56
         clear c56
         obtain ⟨y344, hy344⟩ : ∃ y_ : List Int, y_ = (x8_2 ++ [(x9_2) % 4294967296]) := ⟨_, rfl⟩
         replace H : ((dyad_trim.f k2 a0_0 y344 t332).bind fun bt347 => (some (bt347.1, bt347.2.1, bt347.2.2))) = some (r1, r2, r3) := by first | (rw [hy344]; with_reducible exact H) | (have H2_ := (Option.bind_some _ _).symm.trans H; rw [hy344]; with_reducible exact H2_) | (have H2_ := (Option.bind_some _ _).symm.trans H; with_reducible exact H2_) | with_reducible exact H | (rw [hy344]; exact H) | exact H
         have Ny344 := Aside0.mk hy344
         clear hy344
         obtain ⟨⟨t347, t348, t351⟩, A570, H⟩ := Option.bind_eq_some_iff.mp H
         (try dsimp -simprocs only at H)
         have A57 := Aside0.mk A570
         clear A570
         simp only [Option.some.injEq, Prod.mk.injEq] at H
         obtain ⟨rfl, rfl, rfl⟩ := H
         try go_wp2
         refine ax9 (Kd.V_drew HO_5.out) (Kd.V_drew HO_6.out) (Kd.R_drew HO_8.out) (Kd.V_drew HO_324001.out) (Kd.V_drew HO_325001.out) (blk_drew BK323.out) (blk_drew BK324.out) (blk_drew BK325.out) (below_drew1 HB.out) ?_
         clear HO_5 HO_6 HO_8 HO_324001 HO_325001 BK323 BK324 BK325 HB
         intro HO_5 HO_6 HO_8 HO_324001 HO_325001 BK323 BK324 BK325 HB
         refine start_ (n := 10) (S := fun w' => w'.cell? ⟨gb323, 0, none⟩ = some (.bool a0_0) ∧ w'.cell? ⟨gb323, 1, none⟩ = some (.slice A0_1 l0_1.length c0_1) ∧ w'.cell? ⟨gb323, 2, none⟩ = some (.int .i64 a0_2)) (ds := []) #[false, false, false, false, false, false, false, false, false, false] (by kernel_rfl) rfl rfl ⟨(blk_cell BK323.out 0).trans rfl, (blk_cell BK323.out 1).trans rfl, (blk_cell BK323.out 2).trans rfl⟩ (fun hHeld => ?_); refine with_tabW dyad_Num_Add.tab19 dyad_Num_Add.bits19 (fun HT_ HW_ => ?_)
         generalize wr.drew = w58 at HO_5 HO_6 HO_8 HO_324001 HO_325001 BK323 BK324 BK325 HB hHeld ⊢
         refine pure_ (i := 0) (N := some 79) (v := ?_) (a' := ?_) #[true, false, false, false, false, false, false, false, false, false] rfl rfl (any_of HT_.out (by kernel_rfl)) (fun _ _ _ h => h) (Or.inl ⟨by rfl, ?_⟩) ?_ ?_
         rotate_left
         ·
          intro w'
          go_simp
          with_reducible rfl
         rotate_left
         ·
          simp only [Act.put, sa0, sa1, sa2, i64_w, i32_w]
          rfl
         refine pure_ (i := 2) (N := some 81) (v := ?_) (a' := ?_) #[true, false, true, false, false, false, false, false, false, false] rfl rfl (any_of HT_.out (by kernel_rfl)) (fun _ _ _ h => h) (Or.inl ⟨by rfl, ?_⟩) ?_ ?_
         rotate_left
         ·
          intro w'
          go_simp
          with_reducible rfl
         rotate_left
         ·
          simp only [Act.put, sa0, sa1, sa2, i64_w, i32_w]
          rfl
         refine pure_ (i := 3) (N := some 82) (v := ?_) (a' := ?_) #[true, false, true, true, false, false, false, false, false, false] rfl rfl (any_of HT_.out (by kernel_rfl)) (fun _ _ _ h => h) (Or.inl ⟨by rfl, ?_⟩) ?_ ?_
         rotate_left
         ·
          intro w'
          go_simp
          with_reducible rfl
         rotate_left
         ·
          simp only [Act.put, sa0, sa1, sa2, i64_w, i32_w]
          rfl
         refine pure_ (i := 4) (N := some 83) (v := ?_) (a' := ?_) #[true, false, true, true, true, false, false, false, false, false] rfl rfl (any_of HT_.out (by kernel_rfl)) (fun _ _ _ h => h) (Or.inl ⟨by rfl, ?_⟩) ?_ ?_
         rotate_left
         ·
          intro w'
          go_simp
          with_reducible rfl
         rotate_left
         ·
          simp only [Act.put, sa0, sa1, sa2, i64_w, i32_w]
          rfl
         refine pure_ (i := 7) (N := some 86) (v := ?_) (a' := ?_) #[true, false, true, true, true, false, false, true, false, false] rfl rfl (any_of HT_.out (by kernel_rfl)) (fun _ _ _ h => h) (Or.inl ⟨by rfl, ?_⟩) ?_ ?_
         rotate_left
         ·
          intro w'
          go_simp
          with_reducible rfl
         rotate_left
         ·
          simp only [Act.put, sa0, sa1, sa2, i64_w, i32_w]
          rfl
         refine take_ (i := 1) (N := some 80) (v := ?_) (a' := ?_) #[true, true, true, true, true, false, false, true, false, false] rfl rfl (take_ofW HT_.out HW_.out (by kernel_rfl)) (fun _ _ _ h => h) (Or.inl ⟨by rfl, ?_⟩) hHeld ?_ ?_
         rotate_left
         ·
          rintro w' ⟨s0, s1, s2⟩
          go_simp
          with_reducible rfl
         rotate_left
         ·
          simp only [Act.put, sa0, sa1, sa2, i64_w, i32_w]
          rfl
         refine one_ (i := 5) (N := some 84) #[true, true, true, true, true, true, false, true, false, false] rfl rfl (one_of HT_.out (by kernel_rfl)) (by decide) (fun K hK => ?_)
         refine value_ (w1 := ?_) (v := ?_) (by rfl) rfl ?_ ?_
         rotate_left 2
         ·
          go_simp
          constructor
          ·
           rfl
          ·
           rfl
         refine hK.out _ _ ⟨(blk_cell (blk_alloc BK323.out _) 0).trans rfl, (blk_cell (blk_alloc BK323.out _) 1).trans rfl, (blk_cell (blk_alloc BK323.out _) 2).trans rfl⟩ (fun hHeld => ?_)
         clear hK K
         refine norm_ (a' := ?_) ?_ ?_
         rotate_left
         ·
          show Act.put _ (some 84) _ = _
          simp only [Act.put, sa0, sa1, sa2, i64_w, i32_w]
          rfl
         refine one_ (i := 6) (N := some 85) #[true, true, true, true, true, true, true, true, false, false] rfl rfl (one_of HT_.out (by kernel_rfl)) (by decide) (fun K hK => ?_)
         refine Kd.R_append_step (Kd.int .u32) (w0 := w) w.heap.size (by rfl) (.tmp 81) (.tmp 84) 27 56 (.int .u32 0) 4 rfl Tryd.underlying27 info56 rfl (by decide) (by omega) u8 x8_2 ((x9_2) % 4294967296) [.int .u32 ((x9_2) % 4294967296)] (fun k_ => (w.heap.size ≤ k_)) (fun _ => False) rfl rfl ?aP (fun _ hk => hk.elim) ?aF ?aO ?aB ?aS ?aL ?_
         (case aP => exact rfl)
         (case aB => exact bes)
         (case aF => exact (fun k_ hk => (Nat.le_trans (below_size bes) hk)))
         (case aO => exact (kr HO_8))
         (case aS => exact (below_size bes))
         (case aL => have := LMc56.out; omega)
         intro v345 w59 ho hb hg hat
         rw [← Ny344.out] at ho
         refine ax9 (Kd.V_afterv (ok := (fun k_ => ((P0_1_ k_ ∨ P1_1_ k_) ∨ w.heap.size ≤ k_) ∧ k_ ≠ gb323 ∧ k_ ≠ gb324 ∧ k_ ≠ gb325)) (by (with_reducible repeat (first | apply Kd.V_alloc | apply Kd.V_drewN | apply Kd.V_drew)); exact Kd.V_mono HO_5.out (fun _ hk => ⟨⟨hk.1, ⟨hk.2.2.1, ⟨hk.2.2.2.1, hk.2.2.2.2⟩⟩⟩, hk.2.1⟩)) hg hat) (Kd.V_afterv (ok := (fun k_ => ((P0_1_ k_ ∨ P1_1_ k_) ∨ w.heap.size ≤ k_) ∧ k_ ≠ gb323 ∧ k_ ≠ gb324 ∧ k_ ≠ gb325)) (by (with_reducible repeat (first | apply Kd.V_alloc | apply Kd.V_drewN | apply Kd.V_drew)); exact Kd.V_mono HO_6.out (fun _ hk => ⟨⟨hk.1, ⟨hk.2.2.1, ⟨hk.2.2.2.1, hk.2.2.2.2⟩⟩⟩, hk.2.1⟩)) hg hat) (Kd.V_afterv (ok := (fun k_ => ((P0_1_ k_ ∨ P1_1_ k_) ∨ w.heap.size ≤ k_) ∧ k_ ≠ gb323 ∧ k_ ≠ gb324 ∧ k_ ≠ gb325)) (by (with_reducible repeat (first | apply Kd.V_alloc | apply Kd.V_drewN | apply Kd.V_drew)); exact Kd.V_mono HO_324001.out (fun _ hk => ⟨⟨hk.1, ⟨hk.2.2.1, ⟨hk.2.2.2.1, hk.2.2.2.2⟩⟩⟩, hk.2.1⟩)) hg hat) (Kd.V_afterv (ok := (fun k_ => ((P0_1_ k_ ∨ P1_1_ k_) ∨ w.heap.size ≤ k_) ∧ k_ ≠ gb323 ∧ k_ ≠ gb324 ∧ k_ ≠ gb325)) (by (with_reducible repeat (first | apply Kd.V_alloc | apply Kd.V_drewN | apply Kd.V_drew)); exact Kd.V_mono HO_325001.out (fun _ hk => ⟨⟨hk.1, ⟨hk.2.2.1, ⟨hk.2.2.2.1, hk.2.2.2.2⟩⟩⟩, hk.2.1⟩)) hg hat) (blk_grown (g := gb323) (o := .cells #[.bool a0_0, .slice A0_1 l0_1.length c0_1, .int .i64 a0_2] 29 (0, 0)) (kb BK323) hg (Kd.R_ne HO_8.out BK323.out (by decide))) (blk_grown (g := gb324) (o := .cells #[.bool a1_0, .slice A1_1 l1_1.length c1_1, .int .i64 a1_2] 29 (0, 0)) (kb BK324) hg (Kd.R_ne HO_8.out BK324.out (by decide))) (blk_grown (g := gb325) (o := .cells #[.bool false, .slice none 0 0, .int .i64 0] 29 (0, 0)) (kb BK325) hg (Kd.R_ne HO_8.out BK325.out (by decide))) hb ho ?_
         clear HO_5 HO_6 HO_324001 HO_325001 BK323 BK324 BK325 HB HO_8
         intro HO_5 HO_6 HO_324001 HO_325001 BK323 BK324 BK325 HB HO346
         clear ho hb hg hat
         obtain ⟨Ao60, co60, eo60⟩ := Kd.R_slice HO346.out
         (first | subst eo60 | (injection eo60 with f1_ f2_ f3_; have f4_ := f1_.symm; have f5_ := f3_.symm; clear f1_ f2_ f3_; subst f4_; subst f5_))
         refine hK.out _ _ ⟨(blk_cell BK323.out 0).trans rfl, (blk_cell BK323.out 1).trans rfl, (blk_cell BK323.out 2).trans rfl⟩ (fun hHeld => ?_)
         clear hK K
         refine norm_ (a' := ?_) ?_ ?_
         rotate_left
         ·
          show Act.put _ (some 85) _ = _
          simp only [Act.put, sa0, sa1, sa2, i64_w, i32_w]
          rfl
         refine one_ (i := 8) (N := some 87) #[true, true, true, true, true, true, true, true, true, false] rfl rfl (one_of HT_.out (by kernel_rfl)) (by decide) (fun K hK => ?_)
         refine goes_ Tryd.func27 (by kernel_rfl) rfl #[.bool a0_0, .slice Ao60 y344.length co60, .int .i64 t332] (by rfl) rfl rfl ga ?_
         with_reducible refine (dyad_trim.calls k2 a0_0 (fun k_ => some k_ = (.slice Ao60 y344.length co60 : Value).ownBlock) _ _ y344 t332 t347 t348 t351 _ ?side1 ?side2 A57.out).mono ?_
         (case side1 => exact Kd.R_V (Kd.R_tight rfl (Kd.R_types (Kd.R_types (Kd.R_types (HO346.out) BK323.out (by decide)) BK324.out (by decide)) BK325.out (by decide))))
         (case side2 => first | exact hT | exact TabW.drewN hT _ | exact TabW.drew hT | exact TabW.below hT bes)
         rintro e w61 ⟨v349, rfl, ho0, hb⟩
         refine ⟨_, rfl, ?_⟩
         refine ax10 (Kd.V_below (kv HO_5) hb) (Kd.V_below (kv HO_6) hb) (Kd.V_below (kv HO_324001) hb) (Kd.V_below (kv HO_325001) hb) (Kd.R_below (kr HO346) hb) (Kd.V_lower (Kd.V_mono (ok' := fun k_ => ((P0_1_ k_ ∨ P1_1_ k_) ∨ w.heap.size ≤ k_) ∧ k_ ≠ gb323 ∧ k_ ≠ gb324 ∧ k_ ≠ gb325) ho0 (fun k_ hk_ => ⟨Or.elim hk_ (fun hs_ => (.inr (((Kd.R_types (Kd.R_types (Kd.R_types (HO346.out) BK323.out (by decide)) BK324.out (by decide)) BK325.out (by decide)).1 k_ hs_.symm).1.1.1))) (fun hn_ => (.inr (Nat.le_trans (below_size bes) hn_))), Or.elim hk_ (fun hs_ => ((Kd.R_types (Kd.R_types (Kd.R_types (HO346.out) BK323.out (by decide)) BK324.out (by decide)) BK325.out (by decide)).1 k_ hs_.symm).1.1.2) (fun hn_ => (fb BK323 k_ hn_)), Or.elim hk_ (fun hs_ => ((Kd.R_types (Kd.R_types (Kd.R_types (HO346.out) BK323.out (by decide)) BK324.out (by decide)) BK325.out (by decide)).1 k_ hs_.symm).1.2) (fun hn_ => (fb BK324 k_ hn_)), Or.elim hk_ (fun hs_ => ((Kd.R_types (Kd.R_types (Kd.R_types (HO346.out) BK323.out (by decide)) BK324.out (by decide)) BK325.out (by decide)).1 k_ hs_.symm).2) (fun hn_ => (fb BK325 k_ hn_))⟩)) (below_size bes)) (bb BK323 hb) (bb BK324 hb) (bb BK325 hb) (below_step bes hb) ?_
         clear HO_5 HO_6 HO_324001 HO_325001 HO346 BK323 BK324 BK325 HB
         intro HO_5 HO_6 HO_324001 HO_325001 HO346 HO350 BK323 BK324 BK325 HB
         (try clear hb)
         (try clear hb2)
         (try clear hk)
         (try clear hi)
         (try clear ho0)
         obtain ⟨Ao63, co63, eo63⟩ := Kd.V_slice HO350.out
         (first | subst eo63 | (injection eo63 with f1_ f2_ f3_; have f4_ := f1_.symm; have f5_ := f3_.symm; clear f1_ f2_ f3_; subst f4_; subst f5_))
         refine hK.out _ _ ⟨(blk_cell BK323.out 0).trans rfl, (blk_cell BK323.out 1).trans rfl, (blk_cell BK323.out 2).trans rfl⟩ (fun hHeld => ?_)
         clear hK K
         refine norm_ (a' := ?_) ?_ ?_
         rotate_left
         ·
          show Act.put _ (some 87) _ = _
          simp only [Act.put, sa0, sa1, sa2, i64_w, i32_w]
          rfl
         refine one_ (i := 9) (N := none) #[true, true, true, true, true, true, true, true, true, true] rfl rfl (one_of HT_.out (by kernel_rfl)) (by decide) (fun K hK => ?_)
         have hs62 : w61.cell? ⟨gb325, 0, none⟩ = some (.bool false) := (blk_cell BK325.out 0).trans rfl
         have hfs62 := blk_frozen BK325.out 0
         have hns62_0 := NB323_325.out
         have hns62_1 := NB324_325.out
         have hms62_0 := NB325_323.out
         have hms62_1 := NB325_324.out
         have hs64 : w61.cell? ⟨gb325, 1, none⟩ = some (.slice none 0 0) := (blk_cell BK325.out 1).trans rfl
         have hfs64 := blk_frozen BK325.out 1
         have hns64_0 := NB323_325.out
         have hns64_1 := NB324_325.out
         have hms64_0 := NB325_323.out
         have hms64_1 := NB325_324.out
         have hs65 : w61.cell? ⟨gb325, 2, none⟩ = some (.int .i64 0) := (blk_cell BK325.out 2).trans rfl
         have hfs65 := blk_frozen BK325.out 2
         have hns65_0 := NB323_325.out
         have hns65_1 := NB324_325.out
         have hms65_0 := NB325_323.out
         have hms65_1 := NB325_324.out
         refine skip_ (w1 := ?_) (by rfl) rfl ?_ ?_
         rotate_left
         ·
          go_simp
          rfl
         refine hK.out _ _ ⟨((cell_far (p := ⟨gb325, _, none⟩) NB323_325.out _).trans (((cell_far (p := ⟨gb325, _, none⟩) NB323_325.out _).trans (((cell_far (p := ⟨gb325, _, none⟩) NB323_325.out _).trans (hHeld.1)))))), ((cell_far (p := ⟨gb325, _, none⟩) NB323_325.out _).trans (((cell_far (p := ⟨gb325, _, none⟩) NB323_325.out _).trans (((cell_far (p := ⟨gb325, _, none⟩) NB323_325.out _).trans (hHeld.2.1)))))), ((cell_far (p := ⟨gb325, _, none⟩) NB323_325.out _).trans (((cell_far (p := ⟨gb325, _, none⟩) NB323_325.out _).trans (((cell_far (p := ⟨gb325, _, none⟩) NB323_325.out _).trans (hHeld.2.2))))))⟩ (fun hHeld => ?_)
         clear hK K
         refine done_ (done_of HT_.out (by kernel_rfl)) ?_
         try go_wp2
         refine bodyPost_ret (results_cell_row rfl _ _ gb325 29 #[.bool t347, .slice Ao63 t348.length co63, .int .i64 t351] (0, 0) _ rfl (by (with_reducible repeat (first | refine blk_drewN ?_ _ | refine blk_drew ?_ | refine blk_alloc ?_ _)); refine blk_put (cs := #[.bool t347, .slice Ao63 t348.length co63, .int .i64 0]) ?_ 2 _ rfl; (with_reducible repeat (first | refine blk_drewN ?_ _ | refine blk_drew ?_ | refine blk_alloc ?_ _)); refine blk_put (cs := #[.bool t347, .slice none 0 0, .int .i64 0]) ?_ 1 _ rfl; (with_reducible repeat (first | refine blk_drewN ?_ _ | refine blk_drew ?_ | refine blk_alloc ?_ _)); refine blk_put (cs := #[.bool false, .slice none 0 0, .int .i64 0]) ?_ 0 _ rfl; (with_reducible repeat (first | refine blk_drewN ?_ _ | refine blk_drew ?_ | refine blk_alloc ?_ _)); exact BK325.out) Tryd.underlying29 rfl (by kernel_rfl)) rfl ?_
         exact ⟨_, by first | rfl | (simp [errW_none, errW_some] <;> rfl) | (simp only [← hji40]; first | rfl | (simp [errW_none, errW_some] <;> rfl)) | (simp [*, errW_none, errW_some] <;> rfl), by (with_reducible repeat (first | apply Kd.V_alloc | apply Kd.V_drewN | apply Kd.V_drew)); exact Kd.V_mono (Kd.V_far (p := ⟨gb325, 2, none⟩) (Kd.V_far (p := ⟨gb325, 1, none⟩) (Kd.V_far (p := ⟨gb325, 0, none⟩) (Kd.V_mono HO350.out (fun k_ hk => (⟨hk, hk.2.2.2⟩ : _ ∧ k_ ≠ gb325))) (fun _ hk => hk.2) (.bool t347)) (fun _ hk => hk.2) (.slice Ao63 t348.length co63)) (fun _ hk => hk.2) (.int .i64 t351)) (fun _ hk => hk.1.1), bes⟩
   ·
    rw [if_neg c24] at H
    have c24b0 : (a0_0 == a1_0) = false := by simpa using c24
    (try (have c24b1 : decide (a0_0 = a1_0) = false := by simpa using c24))
    (try (have c24b2 : (a0_0 == a1_0) = false := by simpa using c24))
    (try (have c24b3 : ¬ (a0_0 = a1_0) := by simpa using c24))
    clear c24
    obtain ⟨t352, A660, H⟩ := Option.bind_eq_some_iff.mp H
    (try dsimp -simprocs only at H)
    have A66 := Aside0.mk A660
    clear A660
    have HC67 := Aside0.mk H
    clear H
    go_enter Tryd.func9, Tryd.ntmps9
    go_upto_block 2 with (first | ((with_reducible refine gate_dst (N := 2) rfl ?_); refine gbox (N := 2) (cs := #[.bool a0_0, .slice A0_1 l0_1.length c0_1, .int .i64 a0_2]) (t := 29) ?_; intro gb323 hg w68 hbox hb; refine ax6 (Kd.V_below (Kd.V_elderB (kv HO0_1) gb323 (Nat.le_of_eq hg.symm)) hb) (Kd.V_below (Kd.V_elderB (kv HO1_1) gb323 (Nat.le_of_eq hg.symm)) hb) (below_step bel hb) hbox ((ge hg : w.heap.size ≤ gb323)) ((ge hg : w.heap.size ≤ gb323)) ?_; clear HO0_1; clear HO1_1; clear HB; intro HO0_1 HO1_1 HB BK323 GW323 GE323; clear hb hbox hg) | ((with_reducible refine gate_dst (N := 3) rfl ?_); refine gbox (N := 3) (cs := #[.bool a1_0, .slice A1_1 l1_1.length c1_1, .int .i64 a1_2]) (t := 29) ?_; intro gb324 hg w69 hbox hb; refine ax9 (Kd.V_below (Kd.V_elderB (kv HO0_1) gb324 (Nat.le_of_eq hg.symm)) hb) (Kd.V_below (Kd.V_elderB (kv HO1_1) gb324 (Nat.le_of_eq hg.symm)) hb) (bb BK323 hb) (below_step bes hb) hbox ((ge hg : w.heap.size ≤ gb324)) ((ge hg : w.heap.size ≤ gb324)) (nl hg BK323) (ng hg BK323) ?_; clear HO0_1; clear HO1_1; clear BK323; clear HB; intro HO0_1 HO1_1 BK323 HB BK324 GW324 GE324 NB323_324 NB324_323; clear hb hbox hg) | ((with_reducible refine gate_dst (N := 4) rfl ?_); refine gbox (N := 4) (cs := #[.bool false, .slice none 0 0, .int .i64 0]) (t := 29) ?_; intro gb325 hg w70 hbox hb; refine ax12 (Kd.V_below (Kd.V_elderB (kv HO0_1) gb325 (Nat.le_of_eq hg.symm)) hb) (Kd.V_below (Kd.V_elderB (kv HO1_1) gb325 (Nat.le_of_eq hg.symm)) hb) (bb BK323 hb) (bb BK324 hb) (below_step bes hb) hbox ((ge hg : w.heap.size ≤ gb325)) ((ge hg : w.heap.size ≤ gb325)) (nl hg BK323) (ng hg BK323) (nl hg BK324) (ng hg BK324) ?_; clear HO0_1; clear HO1_1; clear BK323; clear BK324; clear HB; intro HO0_1 HO1_1 BK323 BK324 HB BK325 GW325 GE325 NB323_325 NB325_323 NB324_325 NB325_324; clear hb hbox hg; have hnb71 := NB323_324.out; have hnc71 := NB324_323.out; have hnb72 := NB323_325.out; have hnc72 := NB325_323.out; have hcz73_0 := bc BK323 0 rfl; have hcz73_1 := bc BK323 1 rfl; have hcz73_2 := bc BK323 2 rfl; have hfz73_0 := blk_frozen BK323.out 0; have hfz73_1 := blk_frozen BK323.out 1; have hfz73_2 := blk_frozen BK323.out 2; have hnb74 := NB324_325.out; have hnc74 := NB325_324.out; have hcz75_0 := bc BK324 0 rfl; have hcz75_1 := bc BK324 1 rfl; have hcz75_2 := bc BK324 2 rfl; have hfz75_0 := blk_frozen BK324.out 0; have hfz75_1 := blk_frozen BK324.out 1; have hfz75_2 := blk_frozen BK324.out 2) | ((with_reducible refine gate_callee (f := 30) rfl ?_); refine goesL_ (some 28) rfl rfl Tryd.func30 (by kernel_rfl) rfl #[.agg #[.bool a0_0, .slice A0_1 l0_1.length c0_1, .int .i64 a0_2], .agg #[.bool a1_0, .slice A1_1 l1_1.length c1_1, .int .i64 a1_2]] rfl ga ?_; (with_reducible refine (dyad_line.calls k a0_0 _ _ l0_1 a0_2 a1_0 _ _ l1_1 a1_2 t326 t329 t332 _ ?side1 ?side2 ?side3 ?side4 A23.out).mono ?_); (case side1 => exact kvs HO0_1); (case side2 => exact (Kd.V_reads' HO0_1.out).2.1); (case side3 => exact kvs HO1_1); (case side4 => exact (Kd.V_reads' HO1_1.out).2.1); rintro e w76 ⟨v327, v330, rfl, ho0, ho1, hb⟩; refine ⟨_, rfl, ?_⟩; refine ax8 (Kd.V_below (kv HO0_1) hb) (Kd.V_below (kv HO1_1) hb) (Kd.V_lower (Kd.V_mono (ok' := fun k_ => ((P0_1_ k_ ∨ P1_1_ k_) ∨ w.heap.size ≤ k_) ∧ k_ ≠ gb323 ∧ k_ ≠ gb324 ∧ k_ ≠ gb325) ho0 (fun k_ hk_ => ⟨(.inr (Nat.le_trans (below_size bes) hk_)), (fb BK323 k_ hk_), (fb BK324 k_ hk_), (fb BK325 k_ hk_)⟩)) (below_size bes)) (Kd.V_lower (Kd.V_mono (ok' := fun k_ => ((P0_1_ k_ ∨ P1_1_ k_) ∨ w.heap.size ≤ k_) ∧ k_ ≠ gb323 ∧ k_ ≠ gb324 ∧ k_ ≠ gb325) ho1 (fun k_ hk_ => ⟨(.inr (Nat.le_trans (below_size bes) hk_)), (fb BK323 k_ hk_), (fb BK324 k_ hk_), (fb BK325 k_ hk_)⟩)) (below_size bes)) (bb BK323 hb) (bb BK324 hb) (bb BK325 hb) (below_step bes hb) ?_; clear HO0_1; clear HO1_1; clear BK323; clear BK324; clear BK325; clear HB; intro HO0_1 HO1_1 HO328 HO331 BK323 BK324 BK325 HB; (try clear hb); (try clear ho0); (try clear ho1); have hcz77_0 := bc BK323 0 rfl; have hcz77_1 := bc BK323 1 rfl; have hcz77_2 := bc BK323 2 rfl; have hfz77_0 := blk_frozen BK323.out 0; have hfz77_1 := blk_frozen BK323.out 1; have hfz77_2 := blk_frozen BK323.out 2; have hcz78_0 := bc BK324 0 rfl; have hcz78_1 := bc BK324 1 rfl; have hcz78_2 := bc BK324 2 rfl; have hfz78_0 := blk_frozen BK324.out 0; have hfz78_1 := blk_frozen BK324.out 1; have hfz78_2 := blk_frozen BK324.out 2; obtain ⟨Ao79, co79, eo79⟩ := Kd.V_slice HO328.out; subst eo79; obtain ⟨Ao80, co80, eo80⟩ := Kd.V_slice HO331.out; subst eo80) | ((with_reducible refine gate_callee (f := 31) rfl ?_); refine goesL_ (some 92) rfl rfl Tryd.func31 (by kernel_rfl) rfl #[.slice Ao79 t326.length co79, .slice Ao80 t329.length co80] rfl ga ?_; (with_reducible refine (dyad_cmp.calls k _ _ t326 _ _ t329 t352 _ ?side1 ?side2 ?side3 ?side4 A66.out).mono ?_); (case side1 => exact kvs HO328); (case side2 => exact (Kd.V_reads' HO328.out).2.1); (case side3 => exact kvs HO331); (case side4 => exact (Kd.V_reads' HO331.out).2.1); rintro e w' ⟨rfl, ⟨nd, rfl⟩⟩; refine ⟨_, rfl, ?_⟩; (try (rw [drewN_self w76]; generalize hq_ : World.drewN w76 _ = w76; have n0_ : Aside0 (Kd.V (Kd.int .u32) 56 w76 w.heap.size (fun k_ => ((P0_1_ k_ ∨ P1_1_ k_) ∨ w.heap.size ≤ k_) ∧ k_ ≠ gb323 ∧ k_ ≠ gb324 ∧ k_ ≠ gb325) (.slice A0_1 l0_1.length c0_1) l0_1) := ⟨by rw [← hq_]; exact (by (with_reducible repeat (first | apply Kd.V_alloc | apply Kd.V_drewN | apply Kd.V_drew)); exact Kd.V_mono HO0_1.out (fun _ hk => ⟨hk.1.1.1, ⟨hk.1.1.2, ⟨hk.1.2, hk.2⟩⟩⟩))⟩; have n1_ : Aside0 (Kd.V (Kd.int .u32) 56 w76 w.heap.size (fun k_ => ((P0_1_ k_ ∨ P1_1_ k_) ∨ w.heap.size ≤ k_) ∧ k_ ≠ gb323 ∧ k_ ≠ gb324 ∧ k_ ≠ gb325) (.slice A1_1 l1_1.length c1_1) l1_1) := ⟨by rw [← hq_]; exact (by (with_reducible repeat (first | apply Kd.V_alloc | apply Kd.V_drewN | apply Kd.V_drew)); exact Kd.V_mono HO1_1.out (fun _ hk => ⟨hk.1.1.1, ⟨hk.1.1.2, ⟨hk.1.2, hk.2⟩⟩⟩))⟩; have n2_ : Aside0 (Kd.V (Kd.int .u32) 56 w76 w.heap.size (fun k_ => ((P0_1_ k_ ∨ P1_1_ k_) ∨ w.heap.size ≤ k_) ∧ k_ ≠ gb323 ∧ k_ ≠ gb324 ∧ k_ ≠ gb325) (.slice Ao79 t326.length co79) t326) := ⟨by rw [← hq_]; exact (kv HO328)⟩; have n3_ : Aside0 (Kd.V (Kd.int .u32) 56 w76 w.heap.size (fun k_ => ((P0_1_ k_ ∨ P1_1_ k_) ∨ w.heap.size ≤ k_) ∧ k_ ≠ gb323 ∧ k_ ≠ gb324 ∧ k_ ≠ gb325) (.slice Ao80 t329.length co80) t329) := ⟨by rw [← hq_]; exact (kv HO331)⟩; have n4_ : Aside0 (w76.heap[gb323]? = some (.cells #[.bool a0_0, .slice A0_1 l0_1.length c0_1, .int .i64 a0_2] 29 (0, 0))) := ⟨by rw [← hq_]; exact (kb BK323)⟩; have n5_ : Aside0 (w76.heap[gb324]? = some (.cells #[.bool a1_0, .slice A1_1 l1_1.length c1_1, .int .i64 a1_2] 29 (0, 0))) := ⟨by rw [← hq_]; exact (kb BK324)⟩; have n6_ : Aside0 (w76.heap[gb325]? = some (.cells #[.bool false, .slice none 0 0, .int .i64 0] 29 (0, 0))) := ⟨by rw [← hq_]; exact (kb BK325)⟩; have n7_ : Aside0 (Below w.heap.size w w76) := ⟨by rw [← hq_]; exact bes⟩; clear HO0_1 HO1_1 HO328 HO331 BK323 BK324 BK325 HB hq_; have HO0_1 := n0_; have HO1_1 := n1_; have HO328 := n2_; have HO331 := n3_; have BK323 := n4_; have BK324 := n5_; have BK325 := n6_; have HB := n7_; clear n0_ n1_ n2_ n3_ n4_ n5_ n6_ n7_))))
    (try simp only [Act.put, sa0, sa1, sa2])
    go_cut [5, 6, 11] (fun v5 v6 v11 wc => ∃ (kq : Nat) (x5_66 : List Int) (x6_66 : List Int) (x11_66 : Bool) (x326000_66 : Bool) (x326002_66 : Int), v11 = .bool x11_66 ∧ Aside0 (dyad_Num_Add.j2 kq x5_66 x6_66 t332 x11_66 = some (r1, r2, r3)) ∧ Aside0 (kq ≤ k) ∧ Aside0 (Kd.V (Kd.int .u32) 56 wc w.heap.size (fun k_ => ((P0_1_ k_ ∨ P1_1_ k_) ∨ w.heap.size ≤ k_) ∧ k_ ≠ gb323 ∧ k_ ≠ gb324 ∧ k_ ≠ gb325) v5 x5_66) ∧ Aside0 (Kd.V (Kd.int .u32) 56 wc w.heap.size (fun k_ => ((P0_1_ k_ ∨ P1_1_ k_) ∨ w.heap.size ≤ k_) ∧ k_ ≠ gb323 ∧ k_ ≠ gb324 ∧ k_ ≠ gb325) v6 x6_66) ∧ Aside0 (Kd.V (Kd.int .u32) 56 wc w.heap.size (fun k_ => ((P0_1_ k_ ∨ P1_1_ k_) ∨ w.heap.size ≤ k_) ∧ k_ ≠ gb323 ∧ k_ ≠ gb324 ∧ k_ ≠ gb325) (.slice A0_1 l0_1.length c0_1) l0_1) ∧ Aside0 (Kd.V (Kd.int .u32) 56 wc w.heap.size (fun k_ => ((P0_1_ k_ ∨ P1_1_ k_) ∨ w.heap.size ≤ k_) ∧ k_ ≠ gb323 ∧ k_ ≠ gb324 ∧ k_ ≠ gb325) (.slice A1_1 l1_1.length c1_1) l1_1) ∧ Aside0 (wc.heap[gb323]? = some (.cells #[.bool a0_0, (.slice A0_1 l0_1.length c0_1), .int .i64 a0_2] 29 (0, 0))) ∧ Aside0 (wc.heap[gb324]? = some (.cells #[.bool a1_0, (.slice A1_1 l1_1.length c1_1), .int .i64 a1_2] 29 (0, 0))) ∧ Aside0 (wc.heap[gb325]? = some (.cells #[.bool x326000_66, (.slice none 0 0), .int .i64 x326002_66] 29 (0, 0))) ∧ Aside0 (Below w.heap.size w wc))
    case first =>
     have H := HC67.out
     clear HC67
     by_cases c81 : t352 = 0
     ·
      rw [if_pos c81] at H
      have c81b0 : (t352 == 0) = true := beq_iff_eq.mpr c81
      have c81b1 : (t352 != 0) = false := bne_eq_false_iff_eq.mpr c81
      clear c81
      (first | rw [c81b0] | (simp only [i64_w, i32_w]; rw [c81b0]) | skip)
      simp only [Option.some.injEq, Prod.mk.injEq] at H
      obtain ⟨rfl, rfl, rfl⟩ := H
      have hnb82 := NB325_323.out
      have hnc82 := NB323_325.out
      have hnb83 := NB325_324.out
      have hnc83 := NB324_325.out
      have hcz84_0 := bc BK325 0 rfl
      have hcz84_1 := bc BK325 1 rfl
      have hcz84_2 := bc BK325 2 rfl
      have hfz84_0 := blk_frozen BK325.out 0
      have hfz84_1 := blk_frozen BK325.out 1
      have hfz84_2 := blk_frozen BK325.out 2
      go_wp2
      refine bodyPost_ret (results_cell_row rfl _ _ gb325 29 #[.bool false, .slice none 0 0, .int .i64 0] (0, 0) _ rfl (by (with_reducible repeat (first | refine blk_drewN ?_ _ | refine blk_drew ?_ | refine blk_alloc ?_ _)); refine blk_put (cs := #[.bool false, .slice none 0 0, .int .i64 0]) ?_ 2 _ rfl; (with_reducible repeat (first | refine blk_drewN ?_ _ | refine blk_drew ?_ | refine blk_alloc ?_ _)); refine blk_put (cs := #[.bool false, .slice none 0 0, .int .i64 0]) ?_ 1 _ rfl; (with_reducible repeat (first | refine blk_drewN ?_ _ | refine blk_drew ?_ | refine blk_alloc ?_ _)); refine blk_put (cs := #[.bool false, .slice none 0 0, .int .i64 0]) ?_ 0 _ rfl; (with_reducible repeat (first | refine blk_drewN ?_ _ | refine blk_drew ?_ | refine blk_alloc ?_ _)); exact BK325.out) Tryd.underlying29 rfl (by kernel_rfl)) rfl ?_
      exact ⟨_, er, Kd.V_nil _ _ _ _ _, bes⟩
     ·
      rw [if_neg c81] at H
      have c81b0 : (t352 == 0) = false := beq_eq_false_iff_ne.mpr c81
      have c81b1 : (t352 != 0) = true := bne_iff_ne.mpr c81
      (first | rw [c81b0] | (simp only [i64_w, i32_w]; rw [c81b0]) | skip)
      by_cases c85 : t352 = (-1)
      rotate_left
      ·
       rw [if_neg c85] at H
       have c85b0 : (t352 == (-1)) = false := beq_eq_false_iff_ne.mpr c85
       have c85b1 : (t352 != (-1)) = true := bne_iff_ne.mpr c85
       have H' := Aside0.mk H
       clear H
       go_wp2
       go_meet
       case rel => exact ⟨_, (t326), (t329), (a0_0), (false), (0), (by first | rfl | (simp; done) | (simp [*]; done)), H', ⟨by first | omega | exact Nat.le_refl _⟩, ⟨kv HO328⟩, ⟨kv HO331⟩, ⟨kv HO0_1⟩, ⟨kv HO1_1⟩, ⟨kb BK323⟩, ⟨kb BK324⟩, ⟨kb BK325⟩, ⟨bes⟩⟩
      rw [if_pos c85] at H
      have c85b0 : (t352 == (-1)) = true := beq_iff_eq.mpr c85
      have c85b1 : (t352 != (-1)) = false := bne_eq_false_iff_eq.mpr c85
      clear c85
      have H' := Aside0.mk H
      clear H
      try go_wp2
      refine ax8 (Kd.V_drew HO0_1.out) (Kd.V_drew HO1_1.out) (Kd.V_drew HO328.out) (Kd.V_drew HO331.out) (blk_drew BK323.out) (blk_drew BK324.out) (blk_drew BK325.out) (below_drew1 HB.out) ?_
      clear HO0_1 HO1_1 HO328 HO331 BK323 BK324 BK325 HB
      intro HO0_1 HO1_1 HO328 HO331 BK323 BK324 BK325 HB
      refine start_ (n := 7) (S := fun w' => w'.cell? ⟨gb324, 0, none⟩ = some (.bool a1_0) ∧ w'.cell? ⟨gb324, 1, none⟩ = some (.slice A1_1 l1_1.length c1_1) ∧ w'.cell? ⟨gb324, 2, none⟩ = some (.int .i64 a1_2)) (ds := []) #[false, false, false, false, false, false, false] (by kernel_rfl) rfl rfl ⟨(blk_cell BK324.out 0).trans rfl, (blk_cell BK324.out 1).trans rfl, (blk_cell BK324.out 2).trans rfl⟩ (fun hHeld => ?_)
      generalize w76.drew = w86 at HO0_1 HO1_1 HO328 HO331 BK323 BK324 BK325 HB hHeld ⊢
      refine pure_ (i := 0) (N := some 98) (v := ?_) (a' := ?_) #[true, false, false, false, false, false, false] rfl rfl (by kernel_rfl) (fun _ _ _ h => h) (Or.inl ⟨by rfl, ?_⟩) ?_ ?_
      rotate_left
      ·
       intro w'
       go_simp
       with_reducible rfl
      rotate_left
      ·
       simp only [Act.put, sa0, sa1, sa2, i64_w, i32_w]
       rfl
      refine pure_ (i := 1) (N := some 99) (v := ?_) (a' := ?_) #[true, true, false, false, false, false, false] rfl rfl (by kernel_rfl) (fun _ _ _ h => h) (Or.inl ⟨by rfl, ?_⟩) ?_ ?_
      rotate_left
      ·
       intro w'
       go_simp
       with_reducible rfl
      rotate_left
      ·
       simp only [Act.put, sa0, sa1, sa2, i64_w, i32_w]
       rfl
      refine pure_ (i := 2) (N := some 100) (v := ?_) (a' := ?_) #[true, true, true, false, false, false, false] rfl rfl (by kernel_rfl) (fun _ _ _ h => h) (Or.inl ⟨by rfl, ?_⟩) ?_ ?_
      rotate_left
      ·
       intro w'
       go_simp
       with_reducible rfl
      rotate_left
      ·
       simp only [Act.put, sa0, sa1, sa2, i64_w, i32_w]
       rfl
      refine pure_ (i := 4) (N := some 5) (v := ?_) (a' := ?_) #[true, true, true, false, true, false, false] rfl rfl (by kernel_rfl) (fun _ _ _ h => h) (Or.inl ⟨by rfl, ?_⟩) ?_ ?_
      rotate_left
      ·
       intro w'
       go_simp
       with_reducible rfl
      rotate_left
      ·
       simp only [Act.put, sa0, sa1, sa2, i64_w, i32_w]
       rfl
      refine pure_ (i := 5) (N := some 6) (v := ?_) (a' := ?_) #[true, true, true, false, true, true, false] rfl rfl (by kernel_rfl) (fun _ _ _ h => h) (Or.inl ⟨by rfl, ?_⟩) ?_ ?_
      rotate_left
      ·
       intro w'
       go_simp
       with_reducible rfl
      rotate_left
      ·
       simp only [Act.put, sa0, sa1, sa2, i64_w, i32_w]
       rfl
      refine take_ (i := 3) (N := some 101) (v := ?_) (a' := ?_) #[true, true, true, true, true, true, false] rfl rfl (by kernel_rfl) (fun _ _ _ h => h) (Or.inl ⟨by rfl, ?_⟩) hHeld ?_ ?_
      rotate_left
      ·
       rintro w' ⟨s0, s1, s2⟩
       go_simp
       with_reducible rfl
      rotate_left
      ·
       simp only [Act.put, sa0, sa1, sa2, i64_w, i32_w]
       rfl
      refine pure_ (i := 6) (N := some 11) (v := ?_) (a' := ?_) #[true, true, true, true, true, true, true] rfl rfl (by kernel_rfl) (fun _ _ _ h => h) (Or.inl ⟨by rfl, ?_⟩) ?_ ?_
      rotate_left
      ·
       intro w'
       go_simp
       with_reducible rfl
      rotate_left
      ·
       simp only [Act.put, sa0, sa1, sa2, i64_w, i32_w]
       rfl
      refine done_ (by kernel_rfl) ?_
      try go_wp2
      go_meet
      case rel => exact ⟨_, (t329), (t326), (a1_0), (false), (0), (by first | rfl | (simp; done) | (simp [*]; done)), H', ⟨by first | omega | exact Nat.le_refl _⟩, ⟨kv HO331⟩, ⟨kv HO328⟩, ⟨kv HO0_1⟩, ⟨kv HO1_1⟩, ⟨kb BK323⟩, ⟨kb BK324⟩, ⟨kb BK325⟩, ⟨bes⟩⟩
    case rest =>
     clear HC67
     try clear c1
     try clear c2
     try clear p2
     try clear c3
     try clear c3b0
     try clear c3b1
     try clear c3b2
     try clear p3
     try clear q3
     try clear hx3
     try clear c4
     try clear c5
     try clear p6
     try clear c7
     try clear c8
     try clear c9
     try clear c10
     try clear c13
     try clear c13b0
     try clear c13b1
     try clear c13b2
     try clear c17
     try clear c18
     try clear c20
     try clear c24
     try clear c24b0
     try clear c24b1
     try clear c24b2
     try clear c27
     try clear c29
     try clear c30
     try clear c31
     try clear c32
     try clear p33
     try clear q33
     try clear hx33
     try clear c39
     try clear c39b0
     try clear c39b1
     try clear c41
     try clear c41b0
     try clear c41b1
     try clear c42
     try clear c42b0
     try clear c42b1
     try clear c46
     try clear c46b0
     try clear c47
     try clear c47b0
     try clear c48
     try clear c48b0
     try clear c49
     try clear c49b0
     try clear c50
     try clear c53
     try clear c56
     try clear p64
     try clear c71
     try clear c72
     try clear c74
     try clear c81
     try clear c81b0
     try clear c81b1
     try clear c82
     try clear c83
     try clear c85
     try clear c85b0
     try clear c85b1
     try clear hcz11_0
     try clear hcz11_1
     try clear hcz11_2
     try clear hcz12_0
     try clear hcz12_1
     try clear hcz12_2
     try clear hcz19_0
     try clear hcz19_1
     try clear hcz19_2
     try clear hcz21_0
     try clear hcz21_1
     try clear hcz21_2
     try clear hcz22_0
     try clear hcz22_1
     try clear hcz22_2
     try clear hcz31_0
     try clear hcz31_1
     try clear hcz31_2
     try clear hcz33_0
     try clear hcz33_1
     try clear hcz33_2
     try clear hcz35_0
     try clear hcz35_1
     try clear hcz35_2
     try clear hcz36_0
     try clear hcz36_1
     try clear hcz36_2
     try clear hcz73_0
     try clear hcz73_1
     try clear hcz73_2
     try clear hcz75_0
     try clear hcz75_1
     try clear hcz75_2
     try clear hcz77_0
     try clear hcz77_1
     try clear hcz77_2
     try clear hcz78_0
     try clear hcz78_1
     try clear hcz78_2
     try clear hcz84_0
     try clear hcz84_1
     try clear hcz84_2
     try clear hcz9_0
     try clear hcz9_1
     try clear hcz9_2
     try clear hfz11_0
     try clear hfz11_1
     try clear hfz11_2
     try clear hfz12_0
     try clear hfz12_1
     try clear hfz12_2
     try clear hfz19_0
     try clear hfz19_1
     try clear hfz19_2
     try clear hfz21_0
     try clear hfz21_1
     try clear hfz21_2
     try clear hfz22_0
     try clear hfz22_1
     try clear hfz22_2
     try clear hfz31_0
     try clear hfz31_1
     try clear hfz31_2
     try clear hfz33_0
     try clear hfz33_1
     try clear hfz33_2
     try clear hfz35_0
     try clear hfz35_1
     try clear hfz35_2
     try clear hfz36_0
     try clear hfz36_1
     try clear hfz36_2
     try clear hfz73_0
     try clear hfz73_1
     try clear hfz73_2
     try clear hfz75_0
     try clear hfz75_1
     try clear hfz75_2
     try clear hfz77_0
     try clear hfz77_1
     try clear hfz77_2
     try clear hfz78_0
     try clear hfz78_1
     try clear hfz78_2
     try clear hfz84_0
     try clear hfz84_1
     try clear hfz84_2
     try clear hfz9_0
     try clear hfz9_1
     try clear hfz9_2
     try clear hx336_0
     try clear hx337_0
     try clear p2
     try clear p336
     try clear p337
     try clear p6
     try clear q336
     try clear q337
     obtain ⟨kq, x5_66, x6_66, x11_66, x326000_66, x326002_66, rfl, HA, HJ66, HO_5, HO_6, HO_324001, HO_325001, BK323, BK324, BK325, HB⟩ := hcut
     cases kq with
     | zero => exact absurd HA.out (by simp [dyad_Num_Add.j2])
     | succ kj66 =>
      have H := HA.out
      clear HA
      simp only [dyad_Num_Add.j2] at H
      by_cases c87 : 0 ≤ (x5_66.length : Int)
      rotate_left
      ·
       rw [if_neg c87] at H
       exact absurd H (by simp)

      rw [if_pos c87] at H
      have c87b0 := eq_true c87
      have c87b1 : decide (0 ≤ (x5_66.length : Int)) = true := decide_eq_true c87
      clear c87
      by_cases c88 : ((x5_66.length : Int) : Int).toNat ≤ 70368744177664
      rotate_left
      ·
       rw [if_neg c88] at H
       exact absurd H (by simp)
      rw [if_pos c88] at H
      have c88b0 := eq_true c88
      have c88b1 : decide (((x5_66.length : Int) : Int).toNat ≤ 70368744177664) = true := decide_eq_true c88
      clear c88
      obtain ⟨y353, hy353⟩ : ∃ y_ : List Int, y_ = (List.replicate 0 0) := ⟨_, rfl⟩
      replace H : (dyad_Num_Add.l1 kj66 x5_66 x6_66 t332 x11_66 y353 0 (x5_66.length : Int) 0) = some (r1, r2, r3) := by first | (rw [hy353]; with_reducible exact H) | (have H2_ := (Option.bind_some _ _).symm.trans H; rw [hy353]; with_reducible exact H2_) | (have H2_ := (Option.bind_some _ _).symm.trans H; with_reducible exact H2_) | with_reducible exact H | (rw [hy353]; exact H) | exact H
      have Ny353 := Aside0.mk hy353
      clear hy353
      have H' := Aside0.mk H
      clear H
      obtain ⟨Ao89, co89, eo89⟩ := Kd.V_slice HO_5.out
      subst eo89
      go_wp2_with (first | ((with_reducible refine gate_dst (N := 104) rfl ?_); refine Kd.R_makeC (Kd.int .u32) _ 56 rfl (N := 104) rfl 27 _ _ rfl 0 (x5_66.length : Int) rfl rfl Tryd.underlying27 (.int .u32 0) 4 info56 rfl (by decide) (by omega) 0 (ok := fun _ => True) (okp := fun _ => True) rfl (fun _ hk => hk) trivial (by omega) (of_decide_eq_true (by first | (with_reducible assumption) | assumption)) (Nat.le_trans (Nat.mul_le_mul_right _ (of_decide_eq_true (by first | (with_reducible assumption) | assumption) : (x5_66.length : Int).toNat ≤ 70368744177664)) (by omega)) (Below.refl _ _) (Nat.le_refl _) ?_; intro v354 w90 ho91 hb hg_ hnew_; clear hg_ hnew_; (first | rw [← Ny353.out] at ho91 | (simp only [Int.reduceToNat] at ho91; rw [← Ny353.out] at ho91)); refine ax9 (Kd.V_elder' (kv HO_5) (Kd.R_base ho91) hb) (Kd.V_elder' (kv HO_6) (Kd.R_base ho91) hb) (Kd.V_elder' (kv HO_324001) (Kd.R_base ho91) hb) (Kd.V_elder' (kv HO_325001) (Kd.R_base ho91) hb) (Kd.R_lower (Kd.R_newM (M := fun k_ => (w.heap.size ≤ k_)) ho91 (below_size bes) (fun k_ h_ => h_)) (below_size bes)) (bb BK323 hb) (bb BK324 hb) (bb BK325 hb) (below_step bes hb) ?_; clear HO_5; clear HO_6; clear HO_324001; clear HO_325001; clear BK323; clear BK324; clear BK325; clear HB; intro HO_5 HO_6 HO_324001 HO_325001 HO355 BK323 BK324 BK325 HB; clear hb ho91))
      go_loopg [12, 13, 107] kj66 (fun kq v12 v13 v107 w' => ∃ (x12_2 : List Int) (x13_2 : Int) (x107_2 : Int), v13 = .int .i64 x13_2 ∧ v107 = .int .i64 x107_2 ∧ Aside0 (dyad_Num_Add.l1 kq x5_66 x6_66 t332 x11_66 x12_2 x13_2 (x5_66.length : Int) x107_2 = some (r1, r2, r3)) ∧ Aside0 (kq ≤ kj66) ∧ Aside0 (Kd.V (Kd.int .u32) 56 w' w.heap.size (fun k_ => ((P0_1_ k_ ∨ P1_1_ k_) ∨ w.heap.size ≤ k_) ∧ some k_ ≠ (v12 : Value).ownBlock ∧ k_ ≠ gb323 ∧ k_ ≠ gb324 ∧ k_ ≠ gb325) (.slice Ao89 x5_66.length co89) x5_66) ∧ Aside0 (Kd.V (Kd.int .u32) 56 w' w.heap.size (fun k_ => ((P0_1_ k_ ∨ P1_1_ k_) ∨ w.heap.size ≤ k_) ∧ some k_ ≠ (v12 : Value).ownBlock ∧ k_ ≠ gb323 ∧ k_ ≠ gb324 ∧ k_ ≠ gb325) u6 x6_66) ∧ Aside0 (Kd.R (Kd.int .u32) 56 w' w.heap.size (fun k_ => (w.heap.size ≤ k_)) v12 x12_2) ∧ Aside0 (Kd.V (Kd.int .u32) 56 w' w.heap.size (fun k_ => ((P0_1_ k_ ∨ P1_1_ k_) ∨ w.heap.size ≤ k_) ∧ some k_ ≠ (v12 : Value).ownBlock ∧ k_ ≠ gb323 ∧ k_ ≠ gb324 ∧ k_ ≠ gb325) (.slice A0_1 l0_1.length c0_1) l0_1) ∧ Aside0 (Kd.V (Kd.int .u32) 56 w' w.heap.size (fun k_ => ((P0_1_ k_ ∨ P1_1_ k_) ∨ w.heap.size ≤ k_) ∧ some k_ ≠ (v12 : Value).ownBlock ∧ k_ ≠ gb323 ∧ k_ ≠ gb324 ∧ k_ ≠ gb325) (.slice A1_1 l1_1.length c1_1) l1_1) ∧ Aside0 (w'.heap[gb323]? = some (.cells #[.bool a0_0, (.slice A0_1 l0_1.length c0_1), .int .i64 a0_2] 29 (0, 0))) ∧ Aside0 (w'.heap[gb324]? = some (.cells #[.bool a1_0, (.slice A1_1 l1_1.length c1_1), .int .i64 a1_2] 29 (0, 0))) ∧ Aside0 (w'.heap[gb325]? = some (.cells #[.bool x326000_66, (.slice none 0 0), .int .i64 x326002_66] 29 (0, 0))) ∧ Aside0 (Below w.heap.size w w'))
      case atStart => exact ⟨(y353), (0), (0), (by first | rfl | (simp; done) | (simp [*]; done)), (by first | rfl | (simp; done) | (simp [*]; done)), H', ⟨Nat.le_refl _⟩, ⟨by (with_reducible repeat (first | apply Kd.V_alloc | apply Kd.V_drewN | apply Kd.V_drew)); exact Kd.V_mono HO_5.out (fun _ hk => ⟨hk.1.1, ⟨hk.2, ⟨hk.1.2.1, ⟨hk.1.2.2.1, hk.1.2.2.2⟩⟩⟩⟩)⟩, ⟨by (with_reducible repeat (first | apply Kd.V_alloc | apply Kd.V_drewN | apply Kd.V_drew)); exact Kd.V_mono HO_6.out (fun _ hk => ⟨hk.1.1, ⟨hk.2, ⟨hk.1.2.1, ⟨hk.1.2.2.1, hk.1.2.2.2⟩⟩⟩⟩)⟩, ⟨by (with_reducible repeat (first | apply Kd.R_alloc | apply Kd.R_drewN | apply Kd.R_drew)); exact Kd.R_mono HO355.out (fun _ hk => hk.1)⟩, ⟨by (with_reducible repeat (first | apply Kd.V_alloc | apply Kd.V_drewN | apply Kd.V_drew)); exact Kd.V_mono HO_324001.out (fun _ hk => ⟨hk.1.1, ⟨hk.2, ⟨hk.1.2.1, ⟨hk.1.2.2.1, hk.1.2.2.2⟩⟩⟩⟩)⟩, ⟨by (with_reducible repeat (first | apply Kd.V_alloc | apply Kd.V_drewN | apply Kd.V_drew)); exact Kd.V_mono HO_325001.out (fun _ hk => ⟨hk.1.1, ⟨hk.2, ⟨hk.1.2.1, ⟨hk.1.2.2.1, hk.1.2.2.2⟩⟩⟩⟩)⟩, ⟨kb BK323⟩, ⟨kb BK324⟩, ⟨kb BK325⟩, ⟨bes⟩⟩
      case round =>
       clear H'
       try clear c1
       try clear c2
       try clear p2
       try clear c3
       try clear c3b0
       try clear c3b1
       try clear c3b2
       try clear p3
       try clear q3
       try clear hx3
       try clear c4
       try clear c5
       try clear p6
       try clear c7
       try clear c8
       try clear c9
       try clear c10
       try clear c13
       try clear c13b0
       try clear c13b1
       try clear c13b2
       try clear c17
       try clear c18
       try clear c20
       try clear c24
       try clear c24b0
       try clear c24b1
       try clear c24b2
       try clear c27
       try clear c29
       try clear c30
       try clear c31
       try clear c32
       try clear p33
       try clear q33
       try clear hx33
       try clear c39
       try clear c39b0
       try clear c39b1
       try clear c41
       try clear c41b0
       try clear c41b1
       try clear c42
       try clear c42b0
       try clear c42b1
       try clear c46
       try clear c46b0
       try clear c47
       try clear c47b0
       try clear c48
       try clear c48b0
       try clear c49
       try clear c49b0
       try clear c50
       try clear c53
       try clear c56
       try clear p64
       try clear c71
       try clear c72
       try clear c74
       try clear c81
       try clear c81b0
       try clear c81b1
       try clear c82
       try clear c83
       try clear c85
       try clear c85b0
       try clear c85b1
       try clear c87
       try clear c87b0
       try clear c87b1
       try clear c88
       try clear c88b0
       try clear c88b1
       try clear hcz11_0
       try clear hcz11_1
       try clear hcz11_2
       try clear hcz12_0
       try clear hcz12_1
       try clear hcz12_2
       try clear hcz19_0
       try clear hcz19_1
       try clear hcz19_2
       try clear hcz21_0
       try clear hcz21_1
       try clear hcz21_2
       try clear hcz22_0
       try clear hcz22_1
       try clear hcz22_2
       try clear hcz31_0
       try clear hcz31_1
       try clear hcz31_2
       try clear hcz33_0
       try clear hcz33_1
       try clear hcz33_2
       try clear hcz35_0
       try clear hcz35_1
       try clear hcz35_2
       try clear hcz36_0
       try clear hcz36_1
       try clear hcz36_2
       try clear hcz73_0
       try clear hcz73_1
       try clear hcz73_2
       try clear hcz75_0
       try clear hcz75_1
       try clear hcz75_2
       try clear hcz77_0
       try clear hcz77_1
       try clear hcz77_2
       try clear hcz78_0
       try clear hcz78_1
       try clear hcz78_2
       try clear hcz84_0
       try clear hcz84_1
       try clear hcz84_2
       try clear hcz9_0
       try clear hcz9_1
       try clear hcz9_2
       try clear hfz11_0
       try clear hfz11_1
       try clear hfz11_2
       try clear hfz12_0
       try clear hfz12_1
       try clear hfz12_2
       try clear hfz19_0
       try clear hfz19_1
       try clear hfz19_2
       try clear hfz21_0
       try clear hfz21_1
       try clear hfz21_2
       try clear hfz22_0
       try clear hfz22_1
       try clear hfz22_2
       try clear hfz31_0
       try clear hfz31_1
       try clear hfz31_2
       try clear hfz33_0
       try clear hfz33_1
       try clear hfz33_2
       try clear hfz35_0
       try clear hfz35_1
       try clear hfz35_2
       try clear hfz36_0
       try clear hfz36_1
       try clear hfz36_2
       try clear hfz73_0
       try clear hfz73_1
       try clear hfz73_2
       try clear hfz75_0
       try clear hfz75_1
       try clear hfz75_2
       try clear hfz77_0
       try clear hfz77_1
       try clear hfz77_2
       try clear hfz78_0
       try clear hfz78_1
       try clear hfz78_2
       try clear hfz84_0
       try clear hfz84_1
       try clear hfz84_2
       try clear hfz9_0
       try clear hfz9_1
       try clear hfz9_2
       try clear hx336_0
       try clear hx337_0
       try clear p2
       try clear p3
       try clear p33
       try clear p336
       try clear p337
       try clear p6
       try clear p64
       try clear q3
       try clear q33
       try clear q336
       try clear q337
       obtain ⟨x12_2, x13_2, x107_2, rfl, rfl, HA, HK2, HO_5, HO_6, HO_12, HO_324001, HO_325001, BK323, BK324, BK325, HB⟩ := hrel
       cases gk with
       | zero => exact absurd HA.out (by simp [dyad_Num_Add.l1])
       | succ k2 =>
        have H := HA.out
        clear HA
        simp only [dyad_Num_Add.l1] at H
        by_cases c92 : x107_2 < (x5_66.length : Int)
        ·
         rw [if_pos c92] at H
         have c92b0 : decide (x107_2 < (x5_66.length : Int)) = true := decide_eq_true c92
         clear c92
         by_cases c93 : 0 ≤ x107_2
         rotate_left
         ·
          rw [if_neg c93] at H
          exact absurd H (by simp)
         rw [if_pos c93] at H
         have c93b0 : decide (0 ≤ x107_2) = true := decide_eq_true c93
         clear c93
         by_cases c94 : x107_2 < (x5_66.length : Int)
         rotate_left
         ·
          rw [if_neg c94] at H
          exact absurd H (by simp)
         rw [if_pos c94] at H
         have c94b0 : decide (x107_2 < (x5_66.length : Int)) = true := decide_eq_true c94
         clear c94
         by_cases c95 : x107_2 < (x6_66.length : Int)
         ·
          rw [if_pos c95] at H
          have c95b0 : decide (x107_2 < (x6_66.length : Int)) = true := decide_eq_true c95
          clear c95
          by_cases c96 : x12_2.length < 35184372088832
          rotate_left
          ·
           rw [if_neg c96] at H
           exact absurd H (by simp)
          rw [if_pos c96] at H
          have LMc96 := Aside0.mk c96
          clear c96
          obtain ⟨y358, hy358⟩ : ∃ y_ : List Int, y_ = (x12_2 ++ [(wrap64 ((wrap64 (x13_2 + (wrap64 (rd x5_66 x107_2)))) - (wrap64 (rd x6_66 x107_2)))) % 4294967296]) := ⟨_, rfl⟩
          replace H : (dyad_Num_Add.l1 k2 x5_66 x6_66 t332 x11_66 y358 ((wrap64 ((wrap64 (x13_2 + (wrap64 (rd x5_66 x107_2)))) - (wrap64 (rd x6_66 x107_2)))) / 4294967296) (x5_66.length : Int) (wrap64 (x107_2 + 1))) = some (r1, r2, r3) := by first | (rw [hy358]; with_reducible exact H) | (have H2_ := (Option.bind_some _ _).symm.trans H; rw [hy358]; with_reducible exact H2_) | (have H2_ := (Option.bind_some _ _).symm.trans H; with_reducible exact H2_) | with_reducible exact H | (rw [hy358]; exact H) | exact H
          have Ny358 := Aside0.mk hy358
          clear hy358
          have H' := Aside0.mk H
          clear H
          have p356 : 0 ≤ (x107_2 : Int) := of_decide_eq_true (by first | (with_reducible assumption) | assumption)
          have q356 : x107_2 < (x5_66.length : Int) := of_decide_eq_true (by first | (with_reducible assumption) | assumption)
          obtain ⟨ad356, e356, hx356_0⟩ := Kd.at_int (Kd.V_reads' HO_5.out).2.2 x107_2 p356 q356
          cases e356
          replace p356 := eq_true p356
          replace q356 := eq_true q356
          obtain ⟨Ao97, co97, eo97⟩ := Kd.V_slice HO_6.out
          subst eo97
          have p357 : 0 ≤ (x107_2 : Int) := of_decide_eq_true (by first | (with_reducible assumption) | assumption)
          have q357 : x107_2 < (x6_66.length : Int) := of_decide_eq_true (by first | (with_reducible assumption) | assumption)
          obtain ⟨ad357, e357, hx357_0⟩ := Kd.at_int (Kd.V_reads' HO_6.out).2.2 x107_2 p357 q357
          cases e357
          replace p357 := eq_true p357
          replace q357 := eq_true q357
          go_wp2_with (first | ((with_reducible refine gate_builtin (b := .append) (xs := #[.tmp 128, .tmp 131]) rfl ?_); at_builtin; refine Kd.R_append (Kd.int .u32) (w0 := w) w.heap.size rfl (.tmp 128) (.tmp 131) 27 56 (.int .u32 0) 4 rfl Tryd.underlying27 info56 rfl (by decide) (by omega) u12 x12_2 ((wrap64 ((wrap64 (x13_2 + (wrap64 (rd x5_66 x107_2)))) - (wrap64 (rd x6_66 x107_2)))) % 4294967296) [.int .u32 ((wrap64 ((wrap64 (x13_2 + (wrap64 (rd x5_66 x107_2)))) - (wrap64 (rd x6_66 x107_2)))) % 4294967296)] (fun k_ => (w.heap.size ≤ k_)) (fun _ => False) rfl rfl ?aP (fun _ hk => hk.elim) ?aF ?aO ?aB ?aS ?aL ?_; (case aP => exact rfl); (case aB => exact bes); (case aF => exact (fun k_ hk => (Nat.le_trans (below_size bes) hk))); (case aO => exact (kr HO_12)); (case aS => exact (below_size bes)); (case aL => have := LMc96.out; omega); intro v359 w98 ho hb hg hat; rw [← Ny358.out] at ho; refine ax9 (Kd.V_afterv (ok := (fun k_ => ((P0_1_ k_ ∨ P1_1_ k_) ∨ w.heap.size ≤ k_) ∧ k_ ≠ gb323 ∧ k_ ≠ gb324 ∧ k_ ≠ gb325)) (by (with_reducible repeat (first | apply Kd.V_alloc | apply Kd.V_drewN | apply Kd.V_drew)); exact Kd.V_mono HO_5.out (fun _ hk => ⟨⟨hk.1, ⟨hk.2.2.1, ⟨hk.2.2.2.1, hk.2.2.2.2⟩⟩⟩, hk.2.1⟩)) hg hat) (Kd.V_afterv (ok := (fun k_ => ((P0_1_ k_ ∨ P1_1_ k_) ∨ w.heap.size ≤ k_) ∧ k_ ≠ gb323 ∧ k_ ≠ gb324 ∧ k_ ≠ gb325)) (by (with_reducible repeat (first | apply Kd.V_alloc | apply Kd.V_drewN | apply Kd.V_drew)); exact Kd.V_mono HO_6.out (fun _ hk => ⟨⟨hk.1, ⟨hk.2.2.1, ⟨hk.2.2.2.1, hk.2.2.2.2⟩⟩⟩, hk.2.1⟩)) hg hat) (Kd.V_afterv (ok := (fun k_ => ((P0_1_ k_ ∨ P1_1_ k_) ∨ w.heap.size ≤ k_) ∧ k_ ≠ gb323 ∧ k_ ≠ gb324 ∧ k_ ≠ gb325)) (by (with_reducible repeat (first | apply Kd.V_alloc | apply Kd.V_drewN | apply Kd.V_drew)); exact Kd.V_mono HO_324001.out (fun _ hk => ⟨⟨hk.1, ⟨hk.2.2.1, ⟨hk.2.2.2.1, hk.2.2.2.2⟩⟩⟩, hk.2.1⟩)) hg hat) (Kd.V_afterv (ok := (fun k_ => ((P0_1_ k_ ∨ P1_1_ k_) ∨ w.heap.size ≤ k_) ∧ k_ ≠ gb323 ∧ k_ ≠ gb324 ∧ k_ ≠ gb325)) (by (with_reducible repeat (first | apply Kd.V_alloc | apply Kd.V_drewN | apply Kd.V_drew)); exact Kd.V_mono HO_325001.out (fun _ hk => ⟨⟨hk.1, ⟨hk.2.2.1, ⟨hk.2.2.2.1, hk.2.2.2.2⟩⟩⟩, hk.2.1⟩)) hg hat) (blk_grown (g := gb323) (o := .cells #[.bool a0_0, .slice A0_1 l0_1.length c0_1, .int .i64 a0_2] 29 (0, 0)) (kb BK323) hg (Kd.R_ne HO_12.out BK323.out (by decide))) (blk_grown (g := gb324) (o := .cells #[.bool a1_0, .slice A1_1 l1_1.length c1_1, .int .i64 a1_2] 29 (0, 0)) (kb BK324) hg (Kd.R_ne HO_12.out BK324.out (by decide))) (blk_grown (g := gb325) (o := .cells #[.bool x326000_66, .slice none 0 0, .int .i64 x326002_66] 29 (0, 0)) (kb BK325) hg (Kd.R_ne HO_12.out BK325.out (by decide))) hb ho ?_; clear HO_5; clear HO_6; clear HO_324001; clear HO_325001; clear BK323; clear BK324; clear BK325; clear HB; clear HO_12; intro HO_5 HO_6 HO_324001 HO_325001 BK323 BK324 BK325 HB HO360; clear ho hb hg hat))
          go_roundg k2
          case measure => have := HJ66.out; have := HK2.out; omega
          case rel => exact ⟨(y358), ((wrap64 ((wrap64 (x13_2 + (wrap64 (rd x5_66 x107_2)))) - (wrap64 (rd x6_66 x107_2)))) / 4294967296), (wrap64 (x107_2 + 1)), (by first | rfl | (simp; done) | (simp [*]; done)), (by first | rfl | (simp; done) | (simp [*]; done)), H', ⟨by have := HJ66.out; have := HK2.out; omega⟩, ⟨by (with_reducible repeat (first | apply Kd.V_alloc | apply Kd.V_drewN | apply Kd.V_drew)); exact Kd.V_mono HO_5.out (fun _ hk => ⟨hk.1.1, ⟨hk.2, ⟨hk.1.2.1, ⟨hk.1.2.2.1, hk.1.2.2.2⟩⟩⟩⟩)⟩, ⟨by (with_reducible repeat (first | apply Kd.V_alloc | apply Kd.V_drewN | apply Kd.V_drew)); exact Kd.V_mono HO_6.out (fun _ hk => ⟨hk.1.1, ⟨hk.2, ⟨hk.1.2.1, ⟨hk.1.2.2.1, hk.1.2.2.2⟩⟩⟩⟩)⟩, ⟨kr HO360⟩, ⟨by (with_reducible repeat (first | apply Kd.V_alloc | apply Kd.V_drewN | apply Kd.V_drew)); exact Kd.V_mono HO_324001.out (fun _ hk => ⟨hk.1.1, ⟨hk.2, ⟨hk.1.2.1, ⟨hk.1.2.2.1, hk.1.2.2.2⟩⟩⟩⟩)⟩, ⟨by (with_reducible repeat (first | apply Kd.V_alloc | apply Kd.V_drewN | apply Kd.V_drew)); exact Kd.V_mono HO_325001.out (fun _ hk => ⟨hk.1.1, ⟨hk.2, ⟨hk.1.2.1, ⟨hk.1.2.2.1, hk.1.2.2.2⟩⟩⟩⟩)⟩, ⟨kb BK323⟩, ⟨kb BK324⟩, ⟨kb BK325⟩, ⟨bes⟩⟩
         ·
          rw [if_neg c95] at H
          have c95b0 : decide (x107_2 < (x6_66.length : Int)) = false := decide_eq_false c95
          clear c95
          by_cases c99 : x12_2.length < 35184372088832
          rotate_left
          ·
           rw [if_neg c99] at H
           exact absurd H (by simp)
          rw [if_pos c99] at H
          have LMc99 := Aside0.mk c99
          clear c99
          obtain ⟨y361, hy361⟩ : ∃ y_ : List Int, y_ = (x12_2 ++ [(wrap64 (x13_2 + (wrap64 (rd x5_66 x107_2)))) % 4294967296]) := ⟨_, rfl⟩
          replace H : (dyad_Num_Add.l1 k2 x5_66 x6_66 t332 x11_66 y361 ((wrap64 (x13_2 + (wrap64 (rd x5_66 x107_2)))) / 4294967296) (x5_66.length : Int) (wrap64 (x107_2 + 1))) = some (r1, r2, r3) := by first | (rw [hy361]; with_reducible exact H) | (have H2_ := (Option.bind_some _ _).symm.trans H; rw [hy361]; with_reducible exact H2_) | (have H2_ := (Option.bind_some _ _).symm.trans H; with_reducible exact H2_) | with_reducible exact H | (rw [hy361]; exact H) | exact H
          have Ny361 := Aside0.mk hy361
          clear hy361
          have H' := Aside0.mk H
          clear H
          have p356 : 0 ≤ (x107_2 : Int) := of_decide_eq_true (by first | (with_reducible assumption) | assumption)
          have q356 : x107_2 < (x5_66.length : Int) := of_decide_eq_true (by first | (with_reducible assumption) | assumption)
          obtain ⟨ad356, e356, hx356_0⟩ := Kd.at_int (Kd.V_reads' HO_5.out).2.2 x107_2 p356 q356
          cases e356
          replace p356 := eq_true p356
          replace q356 := eq_true q356
          obtain ⟨Ao100, co100, eo100⟩ := Kd.V_slice HO_6.out
          subst eo100
          go_wp2_with (first | ((with_reducible refine gate_builtin (b := .append) (xs := #[.tmp 128, .tmp 131]) rfl ?_); at_builtin; refine Kd.R_append (Kd.int .u32) (w0 := w) w.heap.size rfl (.tmp 128) (.tmp 131) 27 56 (.int .u32 0) 4 rfl Tryd.underlying27 info56 rfl (by decide) (by omega) u12 x12_2 ((wrap64 (x13_2 + (wrap64 (rd x5_66 x107_2)))) % 4294967296) [.int .u32 ((wrap64 (x13_2 + (wrap64 (rd x5_66 x107_2)))) % 4294967296)] (fun k_ => (w.heap.size ≤ k_)) (fun _ => False) rfl rfl ?aP (fun _ hk => hk.elim) ?aF ?aO ?aB ?aS ?aL ?_; (case aP => exact rfl); (case aB => exact bes); (case aF => exact (fun k_ hk => (Nat.le_trans (below_size bes) hk))); (case aO => exact (kr HO_12)); (case aS => exact (below_size bes)); (case aL => have := LMc99.out; omega); intro v362 w101 ho hb hg hat; rw [← Ny361.out] at ho; refine ax9 (Kd.V_afterv (ok := (fun k_ => ((P0_1_ k_ ∨ P1_1_ k_) ∨ w.heap.size ≤ k_) ∧ k_ ≠ gb323 ∧ k_ ≠ gb324 ∧ k_ ≠ gb325)) (by (with_reducible repeat (first | apply Kd.V_alloc | apply Kd.V_drewN | apply Kd.V_drew)); exact Kd.V_mono HO_5.out (fun _ hk => ⟨⟨hk.1, ⟨hk.2.2.1, ⟨hk.2.2.2.1, hk.2.2.2.2⟩⟩⟩, hk.2.1⟩)) hg hat) (Kd.V_afterv (ok := (fun k_ => ((P0_1_ k_ ∨ P1_1_ k_) ∨ w.heap.size ≤ k_) ∧ k_ ≠ gb323 ∧ k_ ≠ gb324 ∧ k_ ≠ gb325)) (by (with_reducible repeat (first | apply Kd.V_alloc | apply Kd.V_drewN | apply Kd.V_drew)); exact Kd.V_mono HO_6.out (fun _ hk => ⟨⟨hk.1, ⟨hk.2.2.1, ⟨hk.2.2.2.1, hk.2.2.2.2⟩⟩⟩, hk.2.1⟩)) hg hat) (Kd.V_afterv (ok := (fun k_ => ((P0_1_ k_ ∨ P1_1_ k_) ∨ w.heap.size ≤ k_) ∧ k_ ≠ gb323 ∧ k_ ≠ gb324 ∧ k_ ≠ gb325)) (by (with_reducible repeat (first | apply Kd.V_alloc | apply Kd.V_drewN | apply Kd.V_drew)); exact Kd.V_mono HO_324001.out (fun _ hk => ⟨⟨hk.1, ⟨hk.2.2.1, ⟨hk.2.2.2.1, hk.2.2.2.2⟩⟩⟩, hk.2.1⟩)) hg hat) (Kd.V_afterv (ok := (fun k_ => ((P0_1_ k_ ∨ P1_1_ k_) ∨ w.heap.size ≤ k_) ∧ k_ ≠ gb323 ∧ k_ ≠ gb324 ∧ k_ ≠ gb325)) (by (with_reducible repeat (first | apply Kd.V_alloc | apply Kd.V_drewN | apply Kd.V_drew)); exact Kd.V_mono HO_325001.out (fun _ hk => ⟨⟨hk.1, ⟨hk.2.2.1, ⟨hk.2.2.2.1, hk.2.2.2.2⟩⟩⟩, hk.2.1⟩)) hg hat) (blk_grown (g := gb323) (o := .cells #[.bool a0_0, .slice A0_1 l0_1.length c0_1, .int .i64 a0_2] 29 (0, 0)) (kb BK323) hg (Kd.R_ne HO_12.out BK323.out (by decide))) (blk_grown (g := gb324) (o := .cells #[.bool a1_0, .slice A1_1 l1_1.length c1_1, .int .i64 a1_2] 29 (0, 0)) (kb BK324) hg (Kd.R_ne HO_12.out BK324.out (by decide))) (blk_grown (g := gb325) (o := .cells #[.bool x326000_66, .slice none 0 0, .int .i64 x326002_66] 29 (0, 0)) (kb BK325) hg (Kd.R_ne HO_12.out BK325.out (by decide))) hb ho ?_; clear HO_5; clear HO_6; clear HO_324001; clear HO_325001; clear BK323; clear BK324; clear BK325; clear HB; clear HO_12; intro HO_5 HO_6 HO_324001 HO_325001 BK323 BK324 BK325 HB HO363; clear ho hb hg hat))
          go_roundg k2
          case measure => have := HJ66.out; have := HK2.out; omega
          case rel => exact ⟨(y361), ((wrap64 (x13_2 + (wrap64 (rd x5_66 x107_2)))) / 4294967296), (wrap64 (x107_2 + 1)), (by first | rfl | (simp; done) | (simp [*]; done)), (by first | rfl | (simp; done) | (simp [*]; done)), H', ⟨by have := HJ66.out; have := HK2.out; omega⟩, ⟨by (with_reducible repeat (first | apply Kd.V_alloc | apply Kd.V_drewN | apply Kd.V_drew)); exact Kd.V_mono HO_5.out (fun _ hk => ⟨hk.1.1, ⟨hk.2, ⟨hk.1.2.1, ⟨hk.1.2.2.1, hk.1.2.2.2⟩⟩⟩⟩)⟩, ⟨by (with_reducible repeat (first | apply Kd.V_alloc | apply Kd.V_drewN | apply Kd.V_drew)); exact Kd.V_mono HO_6.out (fun _ hk => ⟨hk.1.1, ⟨hk.2, ⟨hk.1.2.1, ⟨hk.1.2.2.1, hk.1.2.2.2⟩⟩⟩⟩)⟩, ⟨kr HO363⟩, ⟨by (with_reducible repeat (first | apply Kd.V_alloc | apply Kd.V_drewN | apply Kd.V_drew)); exact Kd.V_mono HO_324001.out (fun _ hk => ⟨hk.1.1, ⟨hk.2, ⟨hk.1.2.1, ⟨hk.1.2.2.1, hk.1.2.2.2⟩⟩⟩⟩)⟩, ⟨by (with_reducible repeat (first | apply Kd.V_alloc | apply Kd.V_drewN | apply Kd.V_drew)); exact Kd.V_mono HO_325001.out (fun _ hk => ⟨hk.1.1, ⟨hk.2, ⟨hk.1.2.1, ⟨hk.1.2.2.1, hk.1.2.2.2⟩⟩⟩⟩)⟩, ⟨kb BK323⟩, ⟨kb BK324⟩, ⟨kb BK325⟩, ⟨bes⟩⟩
        ·
         rw [if_neg c92] at H
         have c92b0 : decide (x107_2 < (x5_66.length : Int)) = false := decide_eq_false c92
         clear c92
         obtain ⟨⟨t364, t365, t368⟩, A1020, H⟩ := Option.bind_eq_some_iff.mp H
         (try dsimp -simprocs only at H)
         have A102 := Aside0.mk A1020
         clear A1020
         simp only [Option.some.injEq, Prod.mk.injEq] at H
         obtain ⟨rfl, rfl, rfl⟩ := H
         obtain ⟨Ao103, co103, eo103⟩ := Kd.R_slice HO_12.out
         subst eo103
         go_wp2_with (first | ((with_reducible refine gate_callee (f := 27) rfl ?_); refine goesL_ (some 139) rfl rfl Tryd.func27 (by kernel_rfl) rfl #[.bool x11_66, .slice Ao103 x12_2.length co103, .int .i64 t332] rfl ga ?_; (with_reducible refine (dyad_trim.calls k2 x11_66 (fun k_ => some k_ = (.slice Ao103 x12_2.length co103 : Value).ownBlock) _ _ x12_2 t332 t364 t365 t368 _ ?side1 ?side2 A102.out).mono ?_); (case side1 => exact Kd.R_V (Kd.R_tight rfl (Kd.R_types (Kd.R_types (Kd.R_types (HO_12.out) BK323.out (by decide)) BK324.out (by decide)) BK325.out (by decide)))); (case side2 => first | exact hT | exact TabW.drewN hT _ | exact TabW.drew hT | exact TabW.below hT bes); rintro e w104 ⟨v366, rfl, ho0, hb⟩; refine ⟨_, rfl, ?_⟩; refine ax10 (Kd.V_below (kv HO_5) hb) (Kd.V_below (kv HO_6) hb) (Kd.R_below (kr HO_12) hb) (Kd.V_below (kv HO_324001) hb) (Kd.V_below (kv HO_325001) hb) (Kd.V_lower (Kd.V_mono (ok' := fun k_ => ((P0_1_ k_ ∨ P1_1_ k_) ∨ w.heap.size ≤ k_) ∧ k_ ≠ gb323 ∧ k_ ≠ gb324 ∧ k_ ≠ gb325) ho0 (fun k_ hk_ => ⟨Or.elim hk_ (fun hs_ => (.inr (((Kd.R_types (Kd.R_types (Kd.R_types (HO_12.out) BK323.out (by decide)) BK324.out (by decide)) BK325.out (by decide)).1 k_ hs_.symm).1.1.1))) (fun hn_ => (.inr (Nat.le_trans (below_size bes) hn_))), Or.elim hk_ (fun hs_ => ((Kd.R_types (Kd.R_types (Kd.R_types (HO_12.out) BK323.out (by decide)) BK324.out (by decide)) BK325.out (by decide)).1 k_ hs_.symm).1.1.2) (fun hn_ => (fb BK323 k_ hn_)), Or.elim hk_ (fun hs_ => ((Kd.R_types (Kd.R_types (Kd.R_types (HO_12.out) BK323.out (by decide)) BK324.out (by decide)) BK325.out (by decide)).1 k_ hs_.symm).1.2) (fun hn_ => (fb BK324 k_ hn_)), Or.elim hk_ (fun hs_ => ((Kd.R_types (Kd.R_types (Kd.R_types (HO_12.out) BK323.out (by decide)) BK324.out (by decide)) BK325.out (by decide)).1 k_ hs_.symm).2) (fun hn_ => (fb BK325 k_ hn_))⟩)) (below_size bes)) (bb BK323 hb) (bb BK324 hb) (bb BK325 hb) (below_step bes hb) ?_; clear HO_5; clear HO_6; clear HO_12; clear HO_324001; clear HO_325001; clear BK323; clear BK324; clear BK325; clear HB; intro HO_5 HO_6 HO_12 HO_324001 HO_325001 HO367 BK323 BK324 BK325 HB; (try clear hb); (try clear ho0); have hnb105 := NB325_323.out; have hnc105 := NB323_325.out; have hnb106 := NB325_324.out; have hnc106 := NB324_325.out; have hcz107_0 := bc BK325 0 rfl; have hcz107_1 := bc BK325 1 rfl; have hcz107_2 := bc BK325 2 rfl; have hfz107_0 := blk_frozen BK325.out 0; have hfz107_1 := blk_frozen BK325.out 1; have hfz107_2 := blk_frozen BK325.out 2; obtain ⟨Ao108, co108, eo108⟩ := Kd.V_slice HO367.out; subst eo108))
         refine bodyPost_ret (results_cell_row rfl _ _ gb325 29 #[.bool t364, .slice Ao108 t365.length co108, .int .i64 t368] (0, 0) _ rfl (by (with_reducible repeat (first | refine blk_drewN ?_ _ | refine blk_drew ?_ | refine blk_alloc ?_ _)); refine blk_put (cs := #[.bool t364, .slice Ao108 t365.length co108, .int .i64 x326002_66]) ?_ 2 _ rfl; (with_reducible repeat (first | refine blk_drewN ?_ _ | refine blk_drew ?_ | refine blk_alloc ?_ _)); refine blk_put (cs := #[.bool t364, .slice none 0 0, .int .i64 x326002_66]) ?_ 1 _ rfl; (with_reducible repeat (first | refine blk_drewN ?_ _ | refine blk_drew ?_ | refine blk_alloc ?_ _)); refine blk_put (cs := #[.bool x326000_66, .slice none 0 0, .int .i64 x326002_66]) ?_ 0 _ rfl; (with_reducible repeat (first | refine blk_drewN ?_ _ | refine blk_drew ?_ | refine blk_alloc ?_ _)); exact BK325.out) Tryd.underlying29 rfl (by kernel_rfl)) rfl ?_
         exact ⟨_, er, by (with_reducible repeat (first | apply Kd.V_alloc | apply Kd.V_drewN | apply Kd.V_drew)); exact Kd.V_mono (Kd.V_far (p := ⟨gb325, 2, none⟩) (Kd.V_far (p := ⟨gb325, 1, none⟩) (Kd.V_far (p := ⟨gb325, 0, none⟩) (Kd.V_mono HO367.out (fun k_ hk => (⟨hk, hk.2.2.2⟩ : _ ∧ k_ ≠ gb325))) (fun _ hk => hk.2) (.bool t364)) (fun _ hk => hk.2) (.slice Ao108 t365.length co108)) (fun _ hk => hk.2) (.int .i64 t368)) (fun _ hk => hk.1.1), bes⟩
end Go.Proofs.YtenegelkbfmjkaaDoor.F
