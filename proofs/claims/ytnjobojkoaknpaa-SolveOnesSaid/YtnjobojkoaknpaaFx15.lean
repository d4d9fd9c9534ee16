-- Written by a program of this seat's session (mkprint), out of the translation.
import Derived.Test.YtnjobojkoaknpaaShort
import Derived.Test.YtnjobojkoaknpaaFx0
import Derived.Test.YtnjobojkoaknpaaFx2
import Derived.Test.YtnjobojkoaknpaaFx4
import Derived.Test.YtnjobojkoaknpaaFx6
import Derived.Test.YtnjobojkoaknpaaFx10
namespace Go.Proofs.Ytnjobojkoaknpaa.F
open Go.RowKit Go.Proofs.YtnjobojkoaknpaaW.PrintWords Go.Proofs.YtnjobojkoaknpaaW.PrintLast Go.Proofs.YtnjobojkoaknpaaW.PrintMore
attribute [local go_sem] max2_int min2_int max_two min_two max_three min_three max_four min_four   -- for this text's walks alone
set_option linter.unusedVariables false
set_option linter.unusedSimpArgs false

/-! ### mat_One: function 16 -/
def mat_One.l0 : Nat → Int → Int → Int → Int → Int → List Int → Option (Int × Int × Int × List Int)
 | 0, _, _, _, _, _, _ => none
 | k + 1, x9, x10, x434000, x434001, x434002, x434003 => if x10 < x9 then ((mat_Matrix_Set.f x434000 x434001 x434002 x434003 x10 x10 4607182418800017408).bind fun t434 => (mat_One.l0 k x9 (wrap64 (x10 + 1)) x434000 x434001 x434002 t434)) else (some (x434000, x434001, x434002, x434003))
def mat_One.f (k : Nat) (a0 : Int) : Option (Int × Int × Int × List Int) := (mat_New.f a0 a0).bind fun bt427 => (mat_One.l0 k bt427.1 0 bt427.1 bt427.2.1 bt427.2.2.1 bt427.2.2.2)
theorem mat_One.mono_l : ∀ k, (∀ y0 y1 y2 y3 y4 y5, LeO (mat_One.l0 k y0 y1 y2 y3 y4 y5) (mat_One.l0 (k + 1) y0 y1 y2 y3 y4 y5))
 | 0 => fun _ _ _ _ _ _ r h => by simp [mat_One.l0] at h
 | k + 1 => by
  have ih0 := mat_One.mono_l k
  ·
   intro y0 y1 y2 y3 y4 y5
   unfold mat_One.l0
   repeat' with_reducible first | apply ih0 | exact LeO.refl _ | exact LeO.none _ | refine LeO.ite ?_ ?_ | refine LeO.bind ?_ (fun _ => ?_)
theorem mat_One.mono : ∀ a0 k, LeO (mat_One.f k a0) (mat_One.f (k + 1) a0) := by
 intro a0 k
 have ih0 := mat_One.mono_l k
 unfold mat_One.f
 repeat' with_reducible first | apply ih0 | exact LeO.refl _ | exact LeO.none _ | refine LeO.ite ?_ ?_ | refine LeO.bind ?_ (fun _ => ?_)
set_option maxHeartbeats 8000000 in
set_option maxRecDepth 100000 in
theorem mat_One.calls (k : Nat) (a0 : Int) (r1 : Int) (r2 : Int) (r3 : Int) (r4 : List Int) (w : World) (h : mat_One.f k a0 = some (r1, r2, r3, r4)) :
  Calls Try.prog 16 #[.int .i64 a0] w fun e w' => ∃ v3_ : Value, e = .returned (.agg #[.int .i64 r1, .int .i64 r2, .int .i64 r3, v3_]) ∧ Kd.R (Kd.int .u64) 35 w' w.heap.size (fun _ => True) v3_ r4 ∧ Below w.heap.size w w' := by
 have hu25 := Try.underlying25
 have HB := Aside0.mk (Below.refl w.heap.size w)
 have H : ((mat_New.f a0 a0).bind fun bt427 => (mat_One.l0 k bt427.1 0 bt427.1 bt427.2.1 bt427.2.2.1 bt427.2.2.2)) = some (r1, r2, r3, r4) := h
 clear h
 obtain ⟨⟨t427, t428, t429, t430⟩, A20, H⟩ := Option.bind_eq_some_iff.mp H
 (try dsimp -simprocs only at H)
 have A2 := Aside0.mk A20
 clear A20
 have H' := Aside0.mk H
 clear H
 go_enter Try.func16, Try.ntmps16
 go_wp2_with (first | ((with_reducible refine gate_dst (N := 2) rfl ?_); refine gbox (N := 2) (cs := #[.int .i64 0, .int .i64 0, .int .i64 0, .slice none 0 0]) (t := 25) ?_; intro gb426 hg w3 hbox hb; refine ax4 (below_step bel hb) hbox ((ge hg : w.heap.size ≤ gb426)) ((ge hg : w.heap.size ≤ gb426)) ?_; clear HB; intro HB BK426 GW426 GE426; clear hb hbox hg) | ((with_reducible refine gate_callee (f := 17) rfl ?_); refine goesL_ (some 7) rfl rfl Try.func17 (by kernel_rfl) rfl #[.int .i64 a0, .int .i64 a0] rfl ga ?_; (with_reducible refine (mat_New.calls a0 a0 t427 t428 t429 t430 _ A2.out).mono ?_); rintro e w4 ⟨v431, rfl, ho0, hb⟩; refine ⟨_, rfl, ?_⟩; refine ax3 (Kd.R_lower ho0 (below_size bes)) (bb BK426 hb) (below_step bes hb) ?_; clear BK426; clear HB; intro HO432 BK426 HB; (try clear hb); (try clear ho0)) | ((with_reducible refine gate_dst (N := 3) rfl ?_); refine gbox (N := 3) (cs := #[.int .i64 0, .int .i64 0, .int .i64 0, .slice none 0 0]) (t := 25) ?_; intro gb433 hg w5 hbox hb; refine ax8 (Kd.R_below (kr HO432) hb) (bb BK426 hb) (below_step bes hb) hbox ((ge hg : w.heap.size ≤ gb433)) ((ge hg : w.heap.size ≤ gb433)) (nl hg BK426) (ng hg BK426) ?_; clear HO432; clear BK426; clear HB; intro HO432 BK426 HB BK433 GW433 GE433 NB426_433 NB433_426; clear hb hbox hg; have hnb6 := NB433_426.out; have hnc6 := NB426_433.out; have hcz7_0 := bc BK433 0 rfl; have hcz7_1 := bc BK433 1 rfl; have hcz7_2 := bc BK433 2 rfl; have hcz7_3 := bc BK433 3 rfl; have hfz7_0 := blk_frozen BK433.out 0; have hfz7_1 := blk_frozen BK433.out 1; have hfz7_2 := blk_frozen BK433.out 2; have hfz7_3 := blk_frozen BK433.out 3; obtain ⟨Ao8, co8, eo8⟩ := Kd.R_slice HO432.out; subst eo8))
 go_loopg [10] k (fun kq v10 w' => ∃ (x10_1 : Int) (x434003_1 : List Int) (u434003 : Value), v10 = .int .i64 x10_1 ∧ Aside0 (mat_One.l0 kq t427 x10_1 t427 t428 t429 x434003_1 = some (r1, r2, r3, r4)) ∧ Aside0 (kq ≤ k) ∧ Aside0 (Kd.R (Kd.int .u64) 35 w' w.heap.size (fun _ => True) u434003 x434003_1) ∧ Aside0 (w'.heap[gb426]? = some (.cells #[.int .i64 0, .int .i64 0, .int .i64 0, (.slice none 0 0)] 25 (0, 0))) ∧ Aside0 (w'.heap[gb433]? = some (.cells #[.int .i64 t427, .int .i64 t428, .int .i64 t429, u434003] 25 (0, 0))) ∧ Aside0 (Below w.heap.size w w'))
 case atStart => exact ⟨(0), (t430), (.slice Ao8 t430.length co8), (by first | rfl | (simp; done) | (simp [*]; done)), H', ⟨Nat.le_refl _⟩, ⟨by (with_reducible repeat (first | apply Kd.R_alloc | apply Kd.R_drewN | apply Kd.R_drew)); exact Kd.R_mono (Kd.R_far (p := ⟨gb433, 3, none⟩) (Kd.R_far (p := ⟨gb433, 2, none⟩) (Kd.R_far (p := ⟨gb433, 1, none⟩) (Kd.R_far (p := ⟨gb433, 0, none⟩) (Kd.R_types HO432.out BK433.out (by decide)) (fun _ hk => hk.2) (.int .i64 t427)) (fun _ hk => hk.2) (.int .i64 t428)) (fun _ hk => hk.2) (.int .i64 t429)) (fun _ hk => hk.2) (.slice Ao8 t430.length co8)) (fun _ hk => trivial)⟩, ⟨bf BK426 NB426_433⟩, ⟨bp BK433⟩, ⟨bes⟩⟩
 case round =>
  clear H'
  try clear c1
  try clear p2
  try clear c6
  try clear hcz7_0
  try clear hcz7_1
  try clear hcz7_2
  try clear hcz7_3
  try clear hfz7_0
  try clear hfz7_1
  try clear hfz7_2
  try clear hfz7_3
  obtain ⟨x10_1, x434003_1, u434003, rfl, HA, HK1, HO_434003, BK426, BK433, HB⟩ := hrel
  cases gk with
  | zero => exact absurd HA.out (by simp [mat_One.l0])
  | succ k1 =>
   have H := HA.out
   clear HA
   simp only [mat_One.l0] at H
   by_cases c9 : x10_1 < t427
   ·
    rw [if_pos c9] at H
    have c9b0 : decide (x10_1 < t427) = true := decide_eq_true c9
    clear c9
    obtain ⟨t434, A100, H⟩ := Option.bind_eq_some_iff.mp H
    (try dsimp -simprocs only at H)
    have A10 := Aside0.mk A100
    clear A100
    have H' := Aside0.mk H
    clear H
    have hnb11 := NB433_426.out
    have hnc11 := NB426_433.out
    have hcz12_0 := bc BK433 0 rfl
    have hcz12_1 := bc BK433 1 rfl
    have hcz12_2 := bc BK433 2 rfl
    have hcz12_3 := bc BK433 3 rfl
    have hfz12_0 := blk_frozen BK433.out 0
    have hfz12_1 := blk_frozen BK433.out 1
    have hfz12_2 := blk_frozen BK433.out 2
    have hfz12_3 := blk_frozen BK433.out 3
    obtain ⟨Ao13, co13, eo13⟩ := Kd.R_slice HO_434003.out
    subst eo13
    go_wp2_with (first | ((with_reducible refine gate_callee (f := 20) rfl ?_); refine goesL_ (some 16) rfl rfl Try.func20 (by kernel_rfl) rfl #[.agg #[.int .i64 t427, .int .i64 t428, .int .i64 t429, .slice Ao13 x434003_1.length co13], .int .i64 x10_1, .int .i64 x10_1, .int .u64 4607182418800017408] rfl ga ?_; (with_reducible refine (mat_Matrix_Set.calls t427 t428 t429 (fun k_ => some k_ = (.slice Ao13 x434003_1.length co13 : Value).ownBlock) (.slice Ao13 x434003_1.length co13) x434003_1 x10_1 x10_1 4607182418800017408 t434 w _ ?side1 ?side2 A10.out).mono ?_); (case side1 => repeat (first | (with_reducible first | exact HB.out | apply below_alloc | apply pw_below_drewN | apply below_drew1 | refine below_set ?_ GE426.out | refine below_set ?_ GE433.out) | exact HB.out)); (case side2 => exact Kd.R_tight rfl HO_434003.out); rintro e w14 ⟨rfl, hy0, hb, hkp⟩; refine ⟨_, rfl, ?_⟩; refine ax4 (Kd.R_reok rfl hy0 (fun k_ e_ => HO_434003.out.1 k_ e_)) (blk_kept (kb BK426) hkp (fun hs_ => (fun e_ => (Kd.R_ne HO_434003.out BK426.out (by decide)) e_) hs_)) (blk_kept (kb BK433) hkp (fun hs_ => (fun e_ => (Kd.R_ne HO_434003.out BK433.out (by decide)) e_) hs_)) hb ?_; clear HO_434003; clear BK426; clear BK433; clear HB; intro HO_434003 BK426 BK433 HB; (try clear hb); (try clear hkp); (try clear hy0)))
    go_roundg k1
    case measure => have := HK1.out; omega
    case rel => exact ⟨(wrap64 (x10_1 + 1)), (t434), (.slice Ao13 x434003_1.length co13), (by first | rfl | (simp; done) | (simp [*]; done)), H', ⟨by have := HK1.out; omega⟩, ⟨kr HO_434003⟩, ⟨kb BK426⟩, ⟨kb BK433⟩, ⟨bes⟩⟩
   ·
    rw [if_neg c9] at H
    have c9b0 : decide (x10_1 < t427) = false := decide_eq_false c9
    clear c9
    simp only [Option.some.injEq, Prod.mk.injEq] at H
    obtain ⟨rfl, rfl, rfl, rfl⟩ := H
    have hnb15 := NB433_426.out
    have hnc15 := NB426_433.out
    have hcz16_0 := bc BK433 0 rfl
    have hcz16_1 := bc BK433 1 rfl
    have hcz16_2 := bc BK433 2 rfl
    have hcz16_3 := bc BK433 3 rfl
    have hfz16_0 := blk_frozen BK433.out 0
    have hfz16_1 := blk_frozen BK433.out 1
    have hfz16_2 := blk_frozen BK433.out 2
    have hfz16_3 := blk_frozen BK433.out 3
    have hcz17_0 := bc BK426 0 rfl
    have hcz17_1 := bc BK426 1 rfl
    have hcz17_2 := bc BK426 2 rfl
    have hcz17_3 := bc BK426 3 rfl
    have hfz17_0 := blk_frozen BK426.out 0
    have hfz17_1 := blk_frozen BK426.out 1
    have hfz17_2 := blk_frozen BK426.out 2
    have hfz17_3 := blk_frozen BK426.out 3
    obtain ⟨Ao18, co18, eo18⟩ := Kd.R_slice HO_434003.out
    subst eo18
    go_wp2
    refine bodyPost_ret (results_cell_row rfl _ _ gb426 25 #[.int .i64 t427, .int .i64 t428, .int .i64 t429, .slice Ao18 x434003_1.length co18] (0, 0) _ rfl (bp BK426) Try.underlying25 rfl (by kernel_rfl)) rfl ?_
    exact ⟨_, er, by (with_reducible repeat (first | apply Kd.R_alloc | apply Kd.R_drewN | apply Kd.R_drew)); exact Kd.R_mono (Kd.R_far (p := ⟨gb426, 3, none⟩) (Kd.R_far (p := ⟨gb426, 2, none⟩) (Kd.R_far (p := ⟨gb426, 1, none⟩) (Kd.R_far (p := ⟨gb426, 0, none⟩) (Kd.R_types HO_434003.out BK426.out (by decide)) (fun _ hk => hk.2) (.int .i64 t427)) (fun _ hk => hk.2) (.int .i64 t428)) (fun _ hk => hk.2) (.int .i64 t429)) (fun _ hk => hk.2) (.slice Ao18 x434003_1.length co18)) (fun _ hk => trivial), bes⟩

/-! ### dyad_Two: function 18 -/
def dyad_Two.f (a0 : Int) : Option (Bool × List Int × Int) := some (false, (([1] : List Int)), mx (-1048576) (mn a0 1048576))
set_option maxHeartbeats 8000000 in
set_option maxRecDepth 100000 in
theorem dyad_Two.calls (a0 : Int) (r1 : Bool) (r2 : List Int) (r3 : Int) (w : World) (h : dyad_Two.f a0 = some (r1, r2, r3)) :
  Calls Try.prog 18 #[.int .i64 a0] w fun e w' => ∃ v1_ : Value, e = .returned (.agg #[.bool r1, v1_, .int .i64 r3]) ∧ Kd.R (Kd.int .u32) 65 w' w.heap.size (fun _ => True) v1_ r2 ∧ Below w.heap.size w w' := by
 have hu47 := Try.underlying47
 have HB := Aside0.mk (Below.refl w.heap.size w)
 have H : (some (false, (([1] : List Int)), mx (-1048576) (mn a0 1048576))) = some (r1, r2, r3) := h
 clear h
 obtain ⟨y436, hy436⟩ : ∃ y_ : List Int, y_ = (([1] : List Int)) := ⟨_, rfl⟩
 replace H : (some (false, y436, mx (-1048576) (mn a0 1048576))) = some (r1, r2, r3) := by first | (rw [hy436]; with_reducible exact H) | (have H2_ := (Option.bind_some _ _).symm.trans H; rw [hy436]; with_reducible exact H2_) | (have H2_ := (Option.bind_some _ _).symm.trans H; with_reducible exact H2_) | with_reducible exact H | (rw [hy436]; exact H) | exact H
 have Ny436 := Aside0.mk hy436
 clear hy436
 obtain ⟨ji2, hji2⟩ : ∃ j_ : Int, (mn a0 1048576) = j_ := ⟨_, rfl⟩
 replace H : (some (false, y436, mx (-1048576) (ji2))) = some (r1, r2, r3) := by first | (rw [hji2] at H; exact H) | (simp only [hji2] at H ⊢; exact H)
 (try (have hji2h : ji2 ≤ 1048576 := by (rw [← hji2]; unfold mn; (repeat' split) <;> omega)))
 (try (have hji2g : ji2 ≤ 64 := by omega))
 have hji2_ : (if 1048576 < a0 then 1048576 else a0) = ji2 := hji2
 obtain ⟨ji3, hji3⟩ : ∃ j_ : Int, (mx (-1048576) (ji2)) = j_ := ⟨_, rfl⟩
 replace H : (some (false, y436, ji3)) = some (r1, r2, r3) := by first | (rw [hji3] at H; exact H) | (simp only [hji3] at H ⊢; exact H)
 have hji3_ : (if (-1048576) < (ji2) then (ji2) else (-1048576)) = ji3 := hji3
 simp only [Option.some.injEq, Prod.mk.injEq] at H
 obtain ⟨rfl, rfl, rfl⟩ := H
 go_enter Try.func18, Try.ntmps18
 go_wp2_with (first | ((with_reducible refine gate_dst (N := 2) rfl ?_); refine gbox (N := 2) (cs := #[.bool false, .slice none 0 0, .int .i64 0]) (t := 47) ?_; intro gb435 hg w4 hbox hb; refine ax4 (below_step bel hb) hbox ((ge hg : w.heap.size ≤ gb435)) ((ge hg : w.heap.size ≤ gb435)) ?_; clear HB; intro HB BK435 GW435 GE435; clear hb hbox hg) | ((with_reducible refine gate_dst (N := 3) rfl ?_); refine Kd.R_lit (Kd.int .u32) _ 65 ?hg (N := 3) ?hd (xs := ([1] : List Int)) (inner := [.int .u32 1]) (ok := fun _ => True) (okp := fun _ => True) ?hr ?hp (fun _ hk => hk) trivial (Below.refl _ _) (Nat.le_refl _) (by simp) ?_; (case hd => rfl); (case hg => rfl); (case hr => first | (go_simp; done) | (go_simp; rfl)); (case hp => exact (Reps.one (show Kd.M (Kd.int .u32) _ _ _ 1 [.int .u32 1] from rfl) (Reps.none _ _))); intro v437 w5 ho6 hb hg_ hnew_; clear hg_ hnew_; (first | rw [← Ny436.out] at ho6 | (simp only [Int.reduceToNat] at ho6; rw [← Ny436.out] at ho6)); refine ax3 (Kd.R_lower ho6 (below_size bes)) (bb BK435 hb) (below_step bes hb) ?_; clear BK435; clear HB; intro HO438 BK435 HB; clear hb ho6; obtain ⟨Ao7, co7, eo7⟩ := Kd.R_slice HO438.out; subst eo7; have hcz8_0 := bc BK435 0 rfl; have hcz8_1 := bc BK435 1 rfl; have hcz8_2 := bc BK435 2 rfl; have hfz8_0 := blk_frozen BK435.out 0; have hfz8_1 := blk_frozen BK435.out 1; have hfz8_2 := blk_frozen BK435.out 2))
 refine bodyPost_ret (results_cell_row rfl _ _ gb435 47 #[.bool false, .slice Ao7 y436.length co7, .int .i64 ji3] (0, 0) _ rfl (bp BK435) Try.underlying47 rfl (by kernel_rfl)) rfl ?_
 exact ⟨_, by first | rfl | (simp [errW_none, errW_some] <;> rfl) | (simp only [← hji2, ← hji3]; first | rfl | (simp [errW_none, errW_some] <;> rfl)) | (simp [*, errW_none, errW_some] <;> rfl), by (with_reducible repeat (first | apply Kd.R_alloc | apply Kd.R_drewN | apply Kd.R_drew)); exact Kd.R_mono (Kd.R_far (p := ⟨gb435, 2, none⟩) (Kd.R_far (p := ⟨gb435, 1, none⟩) (Kd.R_far (p := ⟨gb435, 0, none⟩) (Kd.R_types HO438.out BK435.out (by decide)) (fun _ hk => hk.2) (.bool false)) (fun _ hk => hk.2) (.slice Ao7 y436.length co7)) (fun _ hk => hk.2) (.int .i64 ji3)) (fun _ hk => trivial), bes⟩

/-! ### dyad_Num_Near: function 19 -/
def dyad_Num_Near.l0 : Nat → Int → Int → Bool → List Int → Int → Int → Bool → List Int → Int → Int → Int → Option (Int × Int)
 | 0, _, _, _, _, _, _, _, _, _, _, _ => none
 | k + 1, x4, x6, x7, x16, x17, x18, x440000, x440001, x440002, x441000, x441001 => if x18 < x17 then (if 0 ≤ x18 then (if x18 < (x16.length : Int) then (if x18 < (wrap64 (x4 - 3)) then (dyad_Num_Near.l0 k x4 (wrap64 (x6 + 32)) true x16 x17 (wrap64 (x18 + 1)) x440000 x440001 x440002 x441000 x441001) else ((wide_Wide_Left.f 0 (IntKind.u64.wrap (rd x16 x18)) (wrap64 (32 * (wrap64 (x18 - (mx 0 (wrap64 (x4 - 3)))))))).bind fun bt444 => ((wide_Wide_Add.f x441000 x441001 bt444.1 bt444.2).bind fun bt446 => (dyad_Num_Near.l0 k x4 x6 x7 x16 x17 (wrap64 (x18 + 1)) x440000 x440001 x440002 bt446.1 bt446.2.1)))) else (none)) else (none)) else ((round_Round.f k x440000 x441000 x441001 x6 x7).bind fun bt441 => (some (bt441.1, bt441.2)))
def dyad_Num_Near.f (k : Nat) (a0_0 : Bool) (l0_1 : List Int) (a0_2 : Int) : Option (Int × Int) := dyad_Num_Near.l0 k (l0_1.length : Int) a0_2 false l0_1 (l0_1.length : Int) 0 a0_0 l0_1 a0_2 0 0
theorem dyad_Num_Near.mono_l : ∀ k, (∀ y0 y1 y2 y3 y4 y5 y6 y7 y8 y9 y10, LeO (dyad_Num_Near.l0 k y0 y1 y2 y3 y4 y5 y6 y7 y8 y9 y10) (dyad_Num_Near.l0 (k + 1) y0 y1 y2 y3 y4 y5 y6 y7 y8 y9 y10))
 | 0 => fun _ _ _ _ _ _ _ _ _ _ _ r h => by simp [dyad_Num_Near.l0] at h
 | k + 1 => by
  have ih0 := dyad_Num_Near.mono_l k
  ·
   intro y0 y1 y2 y3 y4 y5 y6 y7 y8 y9 y10
   unfold dyad_Num_Near.l0
   repeat' with_reducible first | apply ih0 | apply round_Round.mono | exact LeO.refl _ | exact LeO.none _ | refine LeO.ite ?_ ?_ | refine LeO.bind ?_ (fun _ => ?_)
theorem dyad_Num_Near.mono : ∀ a0 a1 a2 k, LeO (dyad_Num_Near.f k a0 a1 a2) (dyad_Num_Near.f (k + 1) a0 a1 a2) := by
 intro a0 a1 a2 k
 have ih0 := dyad_Num_Near.mono_l k
 unfold dyad_Num_Near.f
 repeat' with_reducible first | apply ih0 | apply round_Round.mono | exact LeO.refl _ | exact LeO.none _ | refine LeO.ite ?_ ?_ | refine LeO.bind ?_ (fun _ => ?_)
def dyad_Num_Near.T10 : Bool × List (List Nat × List Nat) := (true, [([], []), ([], []), ([1], [1]), ([2], [2]), ([], []), ([], []), ([5], [5]), ([6], [6]), ([4, 7], [4, 7]), ([8], [8]), ([3, 9], [3, 9]), ([0, 10, 10], [0, 10]), ([11], [11]), ([12], [12]), ([12], [12]), ([13, 11, 0, 1, 2, 3, 4, 5, 6, 7, 8, 9, 10, 11, 12, 13], [13])])
def dyad_Num_Near.B10 : List Nat := [0, 0, 2, 6, 0, 0, 32, 96, 240, 496, 1022, 2047, 4095, 8191, 8191, 16383]
theorem dyad_Num_Near.tab10 : rtab .any (opsOf Try.f19 10) = dyad_Num_Near.T10 := by kernel_rfl
theorem dyad_Num_Near.bits10 : waitsOk dyad_Num_Near.T10.2 dyad_Num_Near.B10 = true := by kernel_rfl
set_option maxHeartbeats 8000000 in
set_option maxRecDepth 100000 in
theorem dyad_Num_Near.calls (k : Nat) (a0_0 : Bool) (A0_1 : Option Addr) (c0_1 : Nat) (l0_1 : List Int) (a0_2 : Int) (r1 : Int) (r2 : Int) (w : World) (hr0_1 : Kd.C (Kd.int .u32) w A0_1 l0_1.length l0_1) (hc0_1 : l0_1.length ≤ c0_1) (h : dyad_Num_Near.f k a0_0 l0_1 a0_2 = some (r1, r2)) :
  Calls Try.prog 19 #[.agg #[.bool a0_0, .slice A0_1 l0_1.length c0_1, .int .i64 a0_2]] w fun e w' => e = .returned (.tuple #[.int .u64 r1, .int .u8 r2]) ∧ Below w.heap.size w w' := by
 have hu47 := Try.underlying47
 have hu67 := Try.underlying67
 have HR0_1 := Aside0.mk hr0_1
 have HC0_1 := Aside0.mk hc0_1
 clear hr0_1 hc0_1
 have HB := Aside0.mk (Below.refl w.heap.size w)
 have H : (dyad_Num_Near.l0 k (l0_1.length : Int) a0_2 false l0_1 (l0_1.length : Int) 0 a0_0 l0_1 a0_2 0 0) = some (r1, r2) := h
 clear h
 have H' := Aside0.mk H
 clear H
 go_enter Try.func19, Try.ntmps19
 go_wp2_with (first | ((with_reducible refine gate_dst (N := 1) rfl ?_); refine gbox (N := 1) (cs := #[.bool a0_0, .slice A0_1 l0_1.length c0_1, .int .i64 a0_2]) (t := 47) ?_; intro gb439 hg w2 hbox hb; refine ax4 (below_step bel hb) hbox ((ge hg : w.heap.size ≤ gb439)) ((ge hg : w.heap.size ≤ gb439)) ?_; clear HB; intro HB BK439 GW439 GE439; clear hb hbox hg; have hcz3_0 := bc BK439 0 rfl; have hcz3_1 := bc BK439 1 rfl; have hcz3_2 := bc BK439 2 rfl; have hfz3_0 := blk_frozen BK439.out 0; have hfz3_1 := blk_frozen BK439.out 1; have hfz3_2 := blk_frozen BK439.out 2) | ((with_reducible refine gate_dst (N := 5) rfl ?_); refine gbox (N := 5) (cs := #[.int .u64 0, .int .u64 0]) (t := 67) ?_; intro gb440 hg w4 hbox hb; refine ax7 (bb BK439 hb) (below_step bes hb) hbox ((ge hg : w.heap.size ≤ gb440)) ((ge hg : w.heap.size ≤ gb440)) (nl hg BK439) (ng hg BK439) ?_; clear BK439; clear HB; intro BK439 HB BK440 GW440 GE440 NB439_440 NB440_439; clear hb hbox hg; have hnb5 := NB439_440.out; have hnc5 := NB440_439.out; have hcz6_0 := bc BK439 0 rfl; have hcz6_1 := bc BK439 1 rfl; have hcz6_2 := bc BK439 2 rfl; have hfz6_0 := blk_frozen BK439.out 0; have hfz6_1 := blk_frozen BK439.out 1; have hfz6_2 := blk_frozen BK439.out 2))
 go_loopg [6, 7, 18] k (fun kq v6 v7 v18 w' => ∃ (x6_1 : Int) (x7_1 : Bool) (x18_1 : Int) (x441000_1 : Int) (x441001_1 : Int), v6 = .int .i64 x6_1 ∧ v7 = .bool x7_1 ∧ v18 = .int .i64 x18_1 ∧ Aside0 (dyad_Num_Near.l0 kq (l0_1.length : Int) x6_1 x7_1 l0_1 (l0_1.length : Int) x18_1 a0_0 l0_1 a0_2 x441000_1 x441001_1 = some (r1, r2)) ∧ Aside0 (kq ≤ k) ∧ Aside0 (w'.heap[gb439]? = some (.cells #[.bool a0_0, (.slice A0_1 l0_1.length c0_1), .int .i64 a0_2] 47 (0, 0))) ∧ Aside0 (w'.heap[gb440]? = some (.cells #[.int .u64 x441000_1, .int .u64 x441001_1] 67 (0, 0))) ∧ Aside0 (Below w.heap.size w w'))
 case atStart => exact ⟨(a0_2), (false), (0), (0), (0), (by first | rfl | (simp; done) | (simp [*]; done)), (by first | rfl | (simp; done) | (simp [*]; done)), (by first | rfl | (simp; done) | (simp [*]; done)), H', ⟨Nat.le_refl _⟩, ⟨kb BK439⟩, ⟨kb BK440⟩, ⟨bes⟩⟩
 case round =>
  clear H'
  try clear c1
  try clear p2
  try clear c5
  try clear hcz3_0
  try clear hcz3_1
  try clear hcz3_2
  try clear hcz6_0
  try clear hcz6_1
  try clear hcz6_2
  try clear hfz3_0
  try clear hfz3_1
  try clear hfz3_2
  try clear hfz6_0
  try clear hfz6_1
  try clear hfz6_2
  obtain ⟨x6_1, x7_1, x18_1, x441000_1, x441001_1, rfl, rfl, rfl, HA, HK1, BK439, BK440, HB⟩ := hrel
  cases gk with
  | zero => exact absurd HA.out (by simp [dyad_Num_Near.l0])
  | succ k1 =>
   have H := HA.out
   clear HA
   simp only [dyad_Num_Near.l0] at H
   by_cases c7 : x18_1 < (l0_1.length : Int)
   ·
    rw [if_pos c7] at H
    have c7b0 : decide (x18_1 < (l0_1.length : Int)) = true := decide_eq_true c7
    clear c7
    by_cases c8 : 0 ≤ x18_1
    rotate_left
    ·
     rw [if_neg c8] at H
     exact absurd H (by simp)
    rw [if_pos c8] at H
    have c8b0 : decide (0 ≤ x18_1) = true := decide_eq_true c8
    clear c8
    by_cases c9 : x18_1 < (l0_1.length : Int)
    rotate_left
    ·
     rw [if_neg c9] at H
     exact absurd H (by simp)
    rw [if_pos c9] at H
    have c9b0 : decide (x18_1 < (l0_1.length : Int)) = true := decide_eq_true c9
    clear c9
    by_cases c10 : x18_1 < (wrap64 ((l0_1.length : Int) - 3))
    ·
     rw [if_pos c10] at H
     have c10b0 : decide (x18_1 < (wrap64 ((l0_1.length : Int) - 3))) = true := decide_eq_true c10
     clear c10
     have H' := Aside0.mk H
     clear H
     have p443 : 0 ≤ (x18_1 : Int) := of_decide_eq_true (by first | (with_reducible assumption) | assumption)
     have q443 : x18_1 < (l0_1.length : Int) := of_decide_eq_true (by first | (with_reducible assumption) | assumption)
     obtain ⟨ad443, e443, hx443_0⟩ := Kd.at_int HR0_1.out x18_1 p443 q443
     cases e443
     replace hx443_0 := (HB.out.cell (World.block_lt_of_cell? w _ hx443_0)).trans hx443_0
     replace p443 := eq_true p443
     replace q443 := eq_true q443
     go_wp2
     go_roundg k1
     case measure => have := HK1.out; omega
     case rel => exact ⟨(wrap64 (x6_1 + 32)), (true), (wrap64 (x18_1 + 1)), (x441000_1), (x441001_1), (by first | rfl | (simp; done) | (simp [*]; done)), (by first | rfl | (simp; done) | (simp [*]; done)), (by first | rfl | (simp; done) | (simp [*]; done)), H', ⟨by have := HK1.out; omega⟩, ⟨kb BK439⟩, ⟨kb BK440⟩, ⟨bes⟩⟩
    ·
     rw [if_neg c10] at H
     have c10b0 : decide (x18_1 < (wrap64 ((l0_1.length : Int) - 3))) = false := decide_eq_false c10
     clear c10
     obtain ⟨ji11, hji11⟩ : ∃ j_ : Int, (mx 0 (wrap64 ((l0_1.length : Int) - 3))) = j_ := ⟨_, rfl⟩
     replace H : ((wide_Wide_Left.f 0 (IntKind.u64.wrap (rd l0_1 x18_1)) (wrap64 (32 * (wrap64 (x18_1 - (ji11)))))).bind fun bt444 => ((wide_Wide_Add.f x441000_1 x441001_1 bt444.1 bt444.2).bind fun bt446 => (dyad_Num_Near.l0 k1 (l0_1.length : Int) x6_1 x7_1 l0_1 (l0_1.length : Int) (wrap64 (x18_1 + 1)) a0_0 l0_1 a0_2 bt446.1 bt446.2.1))) = some (r1, r2) := by first | (rw [hji11] at H; exact H) | (simp only [hji11] at H ⊢; exact H)
     have hji11_ : (if 0 < (wrap64 ((l0_1.length : Int) - 3)) then (wrap64 ((l0_1.length : Int) - 3)) else 0) = ji11 := hji11
     obtain ⟨⟨t444, t445⟩, A120, H⟩ := Option.bind_eq_some_iff.mp H
     (try dsimp -simprocs only at H)
     have A12 := Aside0.mk A120
     clear A120
     obtain ⟨⟨t446, t447, t448⟩, A130, H⟩ := Option.bind_eq_some_iff.mp H
     (try dsimp -simprocs only at H)
     have A13 := Aside0.mk A130
     clear A130
     have H' := Aside0.mk H
     clear H
     have p443 : 0 ≤ (x18_1 : Int) := of_decide_eq_true (by first | (with_reducible assumption) | assumption)
     have q443 : x18_1 < (l0_1.length : Int) := of_decide_eq_true (by first | (with_reducible assumption) | assumption)
     obtain ⟨ad443, e443, hx443_0⟩ := Kd.at_int HR0_1.out x18_1 p443 q443
     cases e443
     replace hx443_0 := (HB.out.cell (World.block_lt_of_cell? w _ hx443_0)).trans hx443_0
     replace p443 := eq_true p443
     replace q443 := eq_true q443
     try go_wp2
     refine ax3 (blk_drew BK439.out) (blk_drew BK440.out) (below_drew1 HB.out) ?_
     clear BK439 BK440 HB
     intro BK439 BK440 HB
     refine start_ (n := 16) (S := fun w' => w'.cell? ⟨gb440, 0, none⟩ = some (.int .u64 x441000_1) ∧ w'.cell? ⟨gb440, 1, none⟩ = some (.int .u64 x441001_1)) (ds := [15]) #[false, false, false, false, false, false, false, false, false, false, false, false, false, false, false, false] (by kernel_rfl) rfl rfl ⟨bk BK440 0, bk BK440 1⟩ (fun hHeld => ?_); refine with_tabW dyad_Num_Near.tab10 dyad_Num_Near.bits10 (fun HT_ HW_ => ?_)
     generalize wr.drew = w14 at BK439 BK440 HB hHeld ⊢
     refine pu 1 31 (lm 16 2) HT_ ?_
     refine pu 2 32 (lm 16 6) HT_ ?_
     refine pu 3 33 (lm 16 14) HT_ ?_
     refine pu 4 34 (lm 16 30) HT_ ?_
     refine pu 5 35 (lm 16 62) HT_ ?_
     refine pu 6 36 (lm 16 126) HT_ ?_
     refine pu 7 37 (lm 16 254) HT_ ?_
     refine pu 8 38 (lm 16 510) HT_ ?_
     refine pu 9 39 (lm 16 1022) HT_ ?_
     refine ta 0 30 (lm 16 1023) HT_ HW_ hHeld ?_
     refine on 10 (some 40) (lm 16 2047) HT_ (fun K hK => ?_)
     refine goes_ Try.func35 (by kernel_rfl) rfl #[.agg #[.int .u64 0, .int .u64 (IntKind.u64.wrap (rd l0_1 x18_1))], .int .i64 (wrap64 (32 * (wrap64 (x18_1 - (ji11)))))] (by rfl) rfl rfl (by (try simp only [List.map_toArray, List.map_cons, List.map_nil]); first | done | (simp only [hji11]; rfl) | rfl | (simp only [List.length_drop, List.length_take]; rfl)) ?_
     with_reducible refine (wide_Wide_Left.calls 0 (IntKind.u64.wrap (rd l0_1 x18_1)) (wrap64 (32 * (wrap64 (x18_1 - (ji11))))) t444 t445 _ A12.out).mono ?_
     rintro e w15 ⟨rfl, hb⟩
     refine ⟨_, rfl, ?_⟩
     refine ax3 (bb BK439 hb) (bb BK440 hb) (below_step bes hb) ?_
     clear BK439 BK440 HB
     intro BK439 BK440 HB
     (try clear hb)
     (try clear hb2)
     (try clear hk)
     (try clear hi)
     refine hK.out _ _ ⟨bk BK440 0, bk BK440 1⟩ (fun hHeld => ?_)
     clear hK K
     refine no 40 ?_
     refine on 11 (some 41) (lm 16 4095) HT_ (fun K hK => ?_)
     refine goes_ Try.func34 (by kernel_rfl) rfl #[.agg #[.int .u64 x441000_1, .int .u64 x441001_1], .agg #[.int .u64 t444, .int .u64 t445]] (by rfl) rfl rfl ga ?_
     with_reducible refine (wide_Wide_Add.calls x441000_1 x441001_1 t444 t445 t446 t447 t448 _ A13.out).mono ?_
     rintro e w16 ⟨rfl, hb⟩
     refine ⟨_, rfl, ?_⟩
     refine ax3 (bb BK439 hb) (bb BK440 hb) (below_step bes hb) ?_
     clear BK439 BK440 HB
     intro BK439 BK440 HB
     (try clear hb)
     (try clear hb2)
     (try clear hk)
     (try clear hi)
     refine hK.out _ _ ⟨bk BK440 0, bk BK440 1⟩ (fun hHeld => ?_)
     clear hK K
     refine no 41 ?_
     refine pu 12 29 (lm 16 8191) HT_ ?_
     refine pu 13 42 (lm 16 16383) HT_ ?_
     refine pu 14 43 (lm 16 32767) HT_ ?_
     refine last_ (i := 15) (N := none) #[true, true, true, true, true, true, true, true, true, true, true, true, true, true, true, true] rfl rfl (one_of HT_.out (by kernel_rfl)) (by decide) (fun K hK => ?_)
     have hs17 : w16.cell? ⟨gb440, 0, none⟩ = some (.int .u64 x441000_1) := bk BK440 0
     have hfs17 := blk_frozen BK440.out 0
     have hns17_0 := NB439_440.out
     have hms17_0 := NB440_439.out
     have hs18 : w16.cell? ⟨gb440, 1, none⟩ = some (.int .u64 x441001_1) := bk BK440 1
     have hfs18 := blk_frozen BK440.out 1
     have hns18_0 := NB439_440.out
     have hms18_0 := NB440_439.out
     refine skip_ (w1 := ?_) (by rfl) rfl ?_ ?_
     rotate_left
     ·
      go_simp
      rfl
     refine hK.out _ _ ?_
     clear hK K
     refine done_ (done_of HT_.out (by kernel_rfl)) ?_
     try go_wp2
     go_roundg k1
     case measure => have := HK1.out; omega
     case rel => exact ⟨(x6_1), (x7_1), (wrap64 (x18_1 + 1)), (t446), (t447), (by first | rfl | (simp; done) | (simp [*]; done)), (by first | rfl | (simp; done) | (simp [*]; done)), (by first | rfl | (simp; done) | (simp [*]; done)), H', ⟨by have := HK1.out; omega⟩, ⟨bf BK439 NB439_440⟩, ⟨bp BK440⟩, ⟨bes⟩⟩
   ·
    rw [if_neg c7] at H
    have c7b0 : decide (x18_1 < (l0_1.length : Int)) = false := decide_eq_false c7
    clear c7
    obtain ⟨⟨t441, t442⟩, A190, H⟩ := Option.bind_eq_some_iff.mp H
    (try dsimp -simprocs only at H)
    have A19 := Aside0.mk A190
    clear A190
    simp only [Option.some.injEq, Prod.mk.injEq] at H
    obtain ⟨rfl, rfl⟩ := H
    have hnb20 := NB439_440.out
    have hnc20 := NB440_439.out
    have hcz21_0 := bc BK439 0 rfl
    have hcz21_1 := bc BK439 1 rfl
    have hcz21_2 := bc BK439 2 rfl
    have hfz21_0 := blk_frozen BK439.out 0
    have hfz21_1 := blk_frozen BK439.out 1
    have hfz21_2 := blk_frozen BK439.out 2
    have hcz22_0 := bc BK440 0 rfl
    have hcz22_1 := bc BK440 1 rfl
    have hfz22_0 := blk_frozen BK440.out 0
    have hfz22_1 := blk_frozen BK440.out 1
    go_wp2_with (first | ((with_reducible refine gate_callee (f := 36) rfl ?_); refine goesL_ (some 50) rfl rfl Try.func36 (by kernel_rfl) rfl #[.bool a0_0, .agg #[.int .u64 x441000_1, .int .u64 x441001_1], .int .i64 x6_1, .bool x7_1] rfl ga ?_; (with_reducible refine (round_Round.calls k1 a0_0 x441000_1 x441001_1 x6_1 x7_1 t441 t442 _ A19.out).mono ?_); rintro e w23 ⟨rfl, hb⟩; refine ⟨_, rfl, ?_⟩; refine ax3 (bb BK439 hb) (bb BK440 hb) (below_step bes hb) ?_; clear BK439; clear BK440; clear HB; intro BK439 BK440 HB; (try clear hb)))
    go_ret2
    exact ⟨er, bes⟩

/-! ### word_Finite: function 21 -/
def word_Finite.f (a0 : Int) : Option (Bool) := (word_Exp.f a0).bind fun t449 => (some (decide (t449 < 2047)))
set_option maxHeartbeats 8000000 in
set_option maxRecDepth 100000 in
theorem word_Finite.calls (a0 : Int) (r : Bool) (w : World) (h : word_Finite.f a0 = some r) :
  Calls Try.prog 21 #[.int .u64 a0] w fun e w' => e = .returned (.bool r) ∧ Drawn0 w w' := by
 have H : ((word_Exp.f a0).bind fun t449 => (some (decide (t449 < 2047)))) = some r := h
 clear h
 obtain ⟨t449, A20, H⟩ := Option.bind_eq_some_iff.mp H
 (try dsimp -simprocs only at H)
 have A2 := Aside0.mk A20
 clear A20
 obtain rfl := Option.some.inj H
 go_enter Try.func21, Try.ntmps21
 go_wp2_with (first | ((with_reducible refine gate_callee (f := 22) rfl ?_); refine goesL_ (some 4) rfl rfl Try.func22 (by kernel_rfl) rfl #[.int .u64 a0] rfl ga ?_; (with_reducible refine (word_Exp.calls a0 t449 _ A2.out).mono ?_); rintro e w' ⟨rfl, ⟨nd, rfl⟩⟩; refine ⟨_, rfl, ?_⟩))
 go_ret
 exact ⟨by first | rfl | (simp; done) | (simp [*]; done), by repeat (first | exact Drawn0.refl _ | apply Drawn0.step)⟩

/-! ### soft_Calc_Add_nil: function 24 -/
def soft_Calc_Add_nil.f (k : Nat)  (a1 : Int) (a2 : Int) : Option (Int) := (soft_Add.f k a1 a2).bind fun bt454 => ((soft_Calc_note_nil.f bt454.1 bt454.2).bind fun t456 => (some t456))
theorem soft_Calc_Add_nil.mono : ∀ a0 a1 k, LeO (soft_Calc_Add_nil.f k a0 a1) (soft_Calc_Add_nil.f (k + 1) a0 a1) := by
 intro a0 a1 k
 unfold soft_Calc_Add_nil.f
 repeat' with_reducible first | apply soft_Add.mono | exact LeO.refl _ | exact LeO.none _ | refine LeO.ite ?_ ?_ | refine LeO.bind ?_ (fun _ => ?_)
set_option maxHeartbeats 8000000 in
set_option maxRecDepth 100000 in
theorem soft_Calc_Add_nil.calls (k : Nat)  (a1 : Int) (a2 : Int) (r : Int) (w : World) (h : soft_Calc_Add_nil.f k a1 a2 = some r) :
  Calls Try.prog 24 #[.pointer none, .int .u64 a1, .int .u64 a2] w fun e w' => e = .returned (.int .u64 r) ∧ Below w.heap.size w w' := by
 have HB := Aside0.mk (Below.refl w.heap.size w)
 have H : ((soft_Add.f k a1 a2).bind fun bt454 => ((soft_Calc_note_nil.f bt454.1 bt454.2).bind fun t456 => (some t456))) = some r := h
 clear h
 obtain ⟨⟨t454, t455⟩, A40, H⟩ := Option.bind_eq_some_iff.mp H
 (try dsimp -simprocs only at H)
 have A4 := Aside0.mk A40
 clear A40
 obtain ⟨t456, A50, H⟩ := Option.bind_eq_some_iff.mp H
 (try dsimp -simprocs only at H)
 have A5 := Aside0.mk A50
 clear A50
 obtain rfl := Option.some.inj H
 go_enter Try.func24, Try.ntmps24
 go_wp2_with (first | ((with_reducible refine gate_callee (f := 37) rfl ?_); refine goesL_ (some 10) rfl rfl Try.func37 (by kernel_rfl) rfl #[.int .u64 a1, .int .u64 a2] rfl ga ?_; (with_reducible refine (soft_Add.calls k a1 a2 t454 t455 _ A4.out).mono ?_); rintro e w6 ⟨rfl, hb⟩; refine ⟨_, rfl, ?_⟩; refine ax1 (below_step bel hb) ?_; clear HB; intro HB; (try clear hb)) | ((with_reducible refine gate_callee (f := 30) rfl ?_); refine goesL_ (some 13) rfl rfl Try.func30 (by kernel_rfl) rfl #[.pointer none, .int .u64 t454, .int .u8 t455] rfl ga ?_; (with_reducible refine (soft_Calc_note_nil.calls  t454 t455 t456 _ A5.out).mono ?_); rintro e w' ⟨rfl, ⟨nd, rfl⟩⟩; refine ⟨_, rfl, ?_⟩))
 go_ret
 exact ⟨er, bel⟩

end Go.Proofs.Ytnjobojkoaknpaa.F
