-- Written by a program of this seat's session (mkprint), out of the translation.
import Derived.Test.YtenegelkbfmjkaaDoorShort
import Derived.Test.YtenegelkbfmjkaaDoorFx0
import Derived.Test.YtenegelkbfmjkaaDoorFx2
import Derived.Test.YtenegelkbfmjkaaDoorFx5
import Derived.Test.YtenegelkbfmjkaaDoorFx6
namespace Go.Proofs.YtenegelkbfmjkaaDoor.F
open Go.RowKit Go.Proofs.YtenegelkbfmjkaaDoorW.PrintWords Go.Proofs.YtenegelkbfmjkaaDoorW.PrintLast Go.Proofs.YtenegelkbfmjkaaDoorW.PrintMore
attribute [local go_sem] max2_int min2_int max_two min_two max_three min_three max_four min_four   -- for this text's walks alone
set_option linter.unusedVariables false
set_option linter.unusedSimpArgs false

/-! ### mat_One: function 21 -/
def mat_One.l0 : Nat → Int → Int → Int → Int → Int → List Int → Option (Int × Int × Int × List Int)
 | 0, _, _, _, _, _, _ => none
 | k + 1, x9, x10, x419000, x419001, x419002, x419003 => if x10 < x9 then ((mat_Matrix_Set.f x419000 x419001 x419002 x419003 x10 x10 4607182418800017408).bind fun t419 => (mat_One.l0 k x9 (wrap64 (x10 + 1)) x419000 x419001 x419002 t419)) else (some (x419000, x419001, x419002, x419003))
def mat_One.f (k : Nat) (a0 : Int) : Option (Int × Int × Int × List Int) := (mat_New.f a0 a0).bind fun bt412 => (mat_One.l0 k bt412.1 0 bt412.1 bt412.2.1 bt412.2.2.1 bt412.2.2.2)
theorem mat_One.mono_l : ∀ k, (∀ y0 y1 y2 y3 y4 y5, LeO (mat_One.l0 k y0 y1 y2 y3 y4 y5) (mat_One.l0 (k + 1) y0 y1 y2 y3 y4 y5))
 | 0 => fun _ _ _ _ _ _ r h => by simp [mat_One.l0] at h
 | k + 1 => by
  have ih0 := mat_One.mono_l k
  ·
   intro y0 y1 y2 y3 y4 y5
   unfold mat_One.l0
   repeat' with_reducible first | apply ih0 | exact LeO.refl _ | exact LeO.none _ | refine LeO.ite ?_ ?_ | refine LeO.bind ?_ (fun _ => ?_)
theorem mat_One.mono : ∀ a0 k, LeO (mat_One.f k a0) (mat_One.f (k + 1) a0) := by
 intro a0 k
 have ih0 := mat_One.mono_l k
 unfold mat_One.f
 repeat' with_reducible first | apply ih0 | exact LeO.refl _ | exact LeO.none _ | refine LeO.ite ?_ ?_ | refine LeO.bind ?_ (fun _ => ?_)
set_option maxHeartbeats 8000000 in
set_option maxRecDepth 100000 in
theorem mat_One.calls (k : Nat) (a0 : Int) (r1 : Int) (r2 : Int) (r3 : Int) (r4 : List Int) (w : World) (h : mat_One.f k a0 = some (r1, r2, r3, r4)) :
  Calls Tryd.prog 21 #[.int .i64 a0] w fun e w' => ∃ v3_ : Value, e = .returned (.agg #[.int .i64 r1, .int .i64 r2, .int .i64 r3, v3_]) ∧ Kd.R (Kd.int .u64) 32 w' w.heap.size (fun _ => True) v3_ r4 ∧ Below w.heap.size w w' := by
 have hu25 := Tryd.underlying25
 have HB := Aside0.mk (Below.refl w.heap.size w)
 have H : ((mat_New.f a0 a0).bind fun bt412 => (mat_One.l0 k bt412.1 0 bt412.1 bt412.2.1 bt412.2.2.1 bt412.2.2.2)) = some (r1, r2, r3, r4) := h
 clear h
 obtain ⟨⟨t412, t413, t414, t415⟩, A20, H⟩ := Option.bind_eq_some_iff.mp H
 (try dsimp -simprocs only at H)
 have A2 := Aside0.mk A20
 clear A20
 have H' := Aside0.mk H
 clear H
 go_enter Tryd.func21, Tryd.ntmps21
 go_wp2_with (first | ((with_reducible refine gate_dst (N := 2) rfl ?_); refine gbox (N := 2) (cs := #[.int .i64 0, .int .i64 0, .int .i64 0, .slice none 0 0]) (t := 25) ?_; intro gb411 hg w3 hbox hb; refine ax4 (below_step bel hb) hbox ((ge hg : w.heap.size ≤ gb411)) ((ge hg : w.heap.size ≤ gb411)) ?_; clear HB; intro HB BK411 GW411 GE411; clear hb hbox hg) | ((with_reducible refine gate_callee (f := 20) rfl ?_); refine goesL_ (some 7) rfl rfl Tryd.func20 (by kernel_rfl) rfl #[.int .i64 a0, .int .i64 a0] rfl ga ?_; (with_reducible refine (mat_New.calls a0 a0 t412 t413 t414 t415 _ A2.out).mono ?_); rintro e w4 ⟨v416, rfl, ho0, hb⟩; refine ⟨_, rfl, ?_⟩; refine ax3 (Kd.R_lower ho0 (below_size bes)) (bb BK411 hb) (below_step bes hb) ?_; clear BK411; clear HB; intro HO417 BK411 HB; (try clear hb); (try clear ho0)) | ((with_reducible refine gate_dst (N := 3) rfl ?_); refine gbox (N := 3) (cs := #[.int .i64 0, .int .i64 0, .int .i64 0, .slice none 0 0]) (t := 25) ?_; intro gb418 hg w5 hbox hb; refine ax8 (Kd.R_below (kr HO417) hb) (bb BK411 hb) (below_step bes hb) hbox ((ge hg : w.heap.size ≤ gb418)) ((ge hg : w.heap.size ≤ gb418)) (nl hg BK411) (ng hg BK411) ?_; clear HO417; clear BK411; clear HB; intro HO417 BK411 HB BK418 GW418 GE418 NB411_418 NB418_411; clear hb hbox hg; have hnb6 := NB418_411.out; have hnc6 := NB411_418.out; have hcz7_0 := bc BK418 0 rfl; have hcz7_1 := bc BK418 1 rfl; have hcz7_2 := bc BK418 2 rfl; have hcz7_3 := bc BK418 3 rfl; have hfz7_0 := blk_frozen BK418.out 0; have hfz7_1 := blk_frozen BK418.out 1; have hfz7_2 := blk_frozen BK418.out 2; have hfz7_3 := blk_frozen BK418.out 3; obtain ⟨Ao8, co8, eo8⟩ := Kd.R_slice HO417.out; subst eo8))
 go_loopg [10] k (fun kq v10 w' => ∃ (x10_1 : Int) (x419003_1 : List Int) (u419003 : Value), v10 = .int .i64 x10_1 ∧ Aside0 (mat_One.l0 kq t412 x10_1 t412 t413 t414 x419003_1 = some (r1, r2, r3, r4)) ∧ Aside0 (kq ≤ k) ∧ Aside0 (Kd.R (Kd.int .u64) 32 w' w.heap.size (fun _ => True) u419003 x419003_1) ∧ Aside0 (w'.heap[gb411]? = some (.cells #[.int .i64 0, .int .i64 0, .int .i64 0, (.slice none 0 0)] 25 (0, 0))) ∧ Aside0 (w'.heap[gb418]? = some (.cells #[.int .i64 t412, .int .i64 t413, .int .i64 t414, u419003] 25 (0, 0))) ∧ Aside0 (Below w.heap.size w w'))
 case atStart => exact ⟨(0), (t415), (.slice Ao8 t415.length co8), (by first | rfl | (simp; done) | (simp [*]; done)), H', ⟨Nat.le_refl _⟩, ⟨by (with_reducible repeat (first | apply Kd.R_alloc | apply Kd.R_drewN | apply Kd.R_drew)); exact Kd.R_mono (Kd.R_far (p := ⟨gb418, 3, none⟩) (Kd.R_far (p := ⟨gb418, 2, none⟩) (Kd.R_far (p := ⟨gb418, 1, none⟩) (Kd.R_far (p := ⟨gb418, 0, none⟩) (Kd.R_types HO417.out BK418.out (by decide)) (fun _ hk => hk.2) (.int .i64 t412)) (fun _ hk => hk.2) (.int .i64 t413)) (fun _ hk => hk.2) (.int .i64 t414)) (fun _ hk => hk.2) (.slice Ao8 t415.length co8)) (fun _ hk => trivial)⟩, ⟨by (with_reducible repeat (first | refine blk_drewN ?_ _ | refine blk_drew ?_ | refine blk_alloc ?_ _)); refine blk_far ?_ NB411_418.out _; (with_reducible repeat (first | refine blk_drewN ?_ _ | refine blk_drew ?_ | refine blk_alloc ?_ _)); refine blk_far ?_ NB411_418.out _; (with_reducible repeat (first | refine blk_drewN ?_ _ | refine blk_drew ?_ | refine blk_alloc ?_ _)); refine blk_far ?_ NB411_418.out _; (with_reducible repeat (first | refine blk_drewN ?_ _ | refine blk_drew ?_ | refine blk_alloc ?_ _)); refine blk_far ?_ NB411_418.out _; (with_reducible repeat (first | refine blk_drewN ?_ _ | refine blk_drew ?_ | refine blk_alloc ?_ _)); exact BK411.out⟩, ⟨by (with_reducible repeat (first | refine blk_drewN ?_ _ | refine blk_drew ?_ | refine blk_alloc ?_ _)); refine blk_put (cs := #[.int .i64 t412, .int .i64 t413, .int .i64 t414, .slice none 0 0]) ?_ 3 _ rfl; (with_reducible repeat (first | refine blk_drewN ?_ _ | refine blk_drew ?_ | refine blk_alloc ?_ _)); refine blk_put (cs := #[.int .i64 t412, .int .i64 t413, .int .i64 0, .slice none 0 0]) ?_ 2 _ rfl; (with_reducible repeat (first | refine blk_drewN ?_ _ | refine blk_drew ?_ | refine blk_alloc ?_ _)); refine blk_put (cs := #[.int .i64 t412, .int .i64 0, .int .i64 0, .slice none 0 0]) ?_ 1 _ rfl; (with_reducible repeat (first | refine blk_drewN ?_ _ | refine blk_drew ?_ | refine blk_alloc ?_ _)); refine blk_put (cs := #[.int .i64 0, .int .i64 0, .int .i64 0, .slice none 0 0]) ?_ 0 _ rfl; (with_reducible repeat (first | refine blk_drewN ?_ _ | refine blk_drew ?_ | refine blk_alloc ?_ _)); exact BK418.out⟩, ⟨bes⟩⟩
 case round =>
  clear H'
  try clear c2
  try clear p2
  try clear c6
  try clear hcz7_0
  try clear hcz7_1
  try clear hcz7_2
  try clear hcz7_3
  try clear hfz7_0
  try clear hfz7_1
  try clear hfz7_2
  try clear hfz7_3
  obtain ⟨x10_1, x419003_1, u419003, rfl, HA, HK1, HO_419003, BK411, BK418, HB⟩ := hrel
  cases gk with
  | zero => exact absurd HA.out (by simp [mat_One.l0])
  | succ k1 =>
   have H := HA.out
   clear HA
   simp only [mat_One.l0] at H
   by_cases c9 : x10_1 < t412
   ·
    rw [if_pos c9] at H
    have c9b0 : decide (x10_1 < t412) = true := decide_eq_true c9
    clear c9
    obtain ⟨t419, A100, H⟩ := Option.bind_eq_some_iff.mp H
    (try dsimp -simprocs only at H)
    have A10 := Aside0.mk A100
    clear A100
    have H' := Aside0.mk H
    clear H
    have hnb11 := NB418_411.out
    have hnc11 := NB411_418.out
    have hcz12_0 := bc BK418 0 rfl
    have hcz12_1 := bc BK418 1 rfl
    have hcz12_2 := bc BK418 2 rfl
    have hcz12_3 := bc BK418 3 rfl
    have hfz12_0 := blk_frozen BK418.out 0
    have hfz12_1 := blk_frozen BK418.out 1
    have hfz12_2 := blk_frozen BK418.out 2
    have hfz12_3 := blk_frozen BK418.out 3
    obtain ⟨Ao13, co13, eo13⟩ := Kd.R_slice HO_419003.out
    subst eo13
    go_wp2_with (first | ((with_reducible refine gate_callee (f := 24) rfl ?_); refine goesL_ (some 16) rfl rfl Tryd.func24 (by kernel_rfl) rfl #[.agg #[.int .i64 t412, .int .i64 t413, .int .i64 t414, .slice Ao13 x419003_1.length co13], .int .i64 x10_1, .int .i64 x10_1, .int .u64 4607182418800017408] rfl ga ?_; (with_reducible refine (mat_Matrix_Set.calls t412 t413 t414 (fun k_ => some k_ = (.slice Ao13 x419003_1.length co13 : Value).ownBlock) (.slice Ao13 x419003_1.length co13) x419003_1 x10_1 x10_1 4607182418800017408 t419 w _ ?side1 ?side2 A10.out).mono ?_); (case side1 => repeat (first | (with_reducible first | exact HB.out | apply below_alloc | apply pw_below_drewN | apply below_drew1 | refine below_set ?_ GE411.out | refine below_set ?_ GE418.out) | exact HB.out)); (case side2 => exact Kd.R_tight rfl HO_419003.out); rintro e w14 ⟨rfl, hy0, hb, hkp⟩; refine ⟨_, rfl, ?_⟩; refine ax4 (Kd.R_reok rfl hy0 (fun k_ e_ => HO_419003.out.1 k_ e_)) (blk_kept (kb BK411) hkp (fun hs_ => (fun e_ => (Kd.R_ne HO_419003.out BK411.out (by decide)) e_) hs_)) (blk_kept (kb BK418) hkp (fun hs_ => (fun e_ => (Kd.R_ne HO_419003.out BK418.out (by decide)) e_) hs_)) hb ?_; clear HO_419003; clear BK411; clear BK418; clear HB; intro HO_419003 BK411 BK418 HB; (try clear hb); (try clear hkp); (try clear hy0)))
    go_roundg k1
    case measure => have := HK1.out; omega
    case rel => exact ⟨(wrap64 (x10_1 + 1)), (t419), (.slice Ao13 x419003_1.length co13), (by first | rfl | (simp; done) | (simp [*]; done)), H', ⟨by have := HK1.out; omega⟩, ⟨kr HO_419003⟩, ⟨kb BK411⟩, ⟨kb BK418⟩, ⟨bes⟩⟩
   ·
    rw [if_neg c9] at H
    have c9b0 : decide (x10_1 < t412) = false := decide_eq_false c9
    clear c9
    simp only [Option.some.injEq, Prod.mk.injEq] at H
    obtain ⟨rfl, rfl, rfl, rfl⟩ := H
    have hnb15 := NB418_411.out
    have hnc15 := NB411_418.out
    have hcz16_0 := bc BK418 0 rfl
    have hcz16_1 := bc BK418 1 rfl
    have hcz16_2 := bc BK418 2 rfl
    have hcz16_3 := bc BK418 3 rfl
    have hfz16_0 := blk_frozen BK418.out 0
    have hfz16_1 := blk_frozen BK418.out 1
    have hfz16_2 := blk_frozen BK418.out 2
    have hfz16_3 := blk_frozen BK418.out 3
    have hcz17_0 := bc BK411 0 rfl
    have hcz17_1 := bc BK411 1 rfl
    have hcz17_2 := bc BK411 2 rfl
    have hcz17_3 := bc BK411 3 rfl
    have hfz17_0 := blk_frozen BK411.out 0
    have hfz17_1 := blk_frozen BK411.out 1
    have hfz17_2 := blk_frozen BK411.out 2
    have hfz17_3 := blk_frozen BK411.out 3
    obtain ⟨Ao18, co18, eo18⟩ := Kd.R_slice HO_419003.out
    subst eo18
    go_wp2
    refine bodyPost_ret (results_cell_row rfl _ _ gb411 25 #[.int .i64 t412, .int .i64 t413, .int .i64 t414, .slice Ao18 x419003_1.length co18] (0, 0) _ rfl (by (with_reducible repeat (first | refine blk_drewN ?_ _ | refine blk_drew ?_ | refine blk_alloc ?_ _)); refine blk_put (cs := #[.int .i64 t412, .int .i64 t413, .int .i64 t414, .slice none 0 0]) ?_ 3 _ rfl; (with_reducible repeat (first | refine blk_drewN ?_ _ | refine blk_drew ?_ | refine blk_alloc ?_ _)); refine blk_put (cs := #[.int .i64 t412, .int .i64 t413, .int .i64 0, .slice none 0 0]) ?_ 2 _ rfl; (with_reducible repeat (first | refine blk_drewN ?_ _ | refine blk_drew ?_ | refine blk_alloc ?_ _)); refine blk_put (cs := #[.int .i64 t412, .int .i64 0, .int .i64 0, .slice none 0 0]) ?_ 1 _ rfl; (with_reducible repeat (first | refine blk_drewN ?_ _ | refine blk_drew ?_ | refine blk_alloc ?_ _)); refine blk_put (cs := #[.int .i64 0, .int .i64 0, .int .i64 0, .slice none 0 0]) ?_ 0 _ rfl; (with_reducible repeat (first | refine blk_drewN ?_ _ | refine blk_drew ?_ | refine blk_alloc ?_ _)); exact BK411.out) Tryd.underlying25 rfl (by kernel_rfl)) rfl ?_
    exact ⟨_, er, by (with_reducible repeat (first | apply Kd.R_alloc | apply Kd.R_drewN | apply Kd.R_drew)); exact Kd.R_mono (Kd.R_far (p := ⟨gb411, 3, none⟩) (Kd.R_far (p := ⟨gb411, 2, none⟩) (Kd.R_far (p := ⟨gb411, 1, none⟩) (Kd.R_far (p := ⟨gb411, 0, none⟩) (Kd.R_types HO_419003.out BK411.out (by decide)) (fun _ hk => hk.2) (.int .i64 t412)) (fun _ hk => hk.2) (.int .i64 t413)) (fun _ hk => hk.2) (.int .i64 t414)) (fun _ hk => hk.2) (.slice Ao18 x419003_1.length co18)) (fun _ hk => trivial), bes⟩

/-! ### mat_Matrix_Check: function 22 -/
mutual
def mat_Matrix_Check.j0 : Nat → Bool → Int → Int → Int → List Int → Option (Int)
 | 0, _, _, _, _, _ => none
 | k + 1, x3, x421000, x421001, x421002, x421003 => if x3 = true then (some 4) else (if x421000 = 0 then (mat_Matrix_Check.j1 k true x421000 x421001 x421002 x421003) else (mat_Matrix_Check.j1 k (x421001 == 0) x421000 x421001 x421002 x421003))
def mat_Matrix_Check.j1 : Nat → Bool → Int → Int → Int → List Int → Option (Int)
 | 0, _, _, _, _, _ => none
 | k + 1, x34, x421000, x421001, x421002, x421003 => if x34 = true then (some 0) else (if (wrap64 ((wrap64 ((wrap64 (x421000 - 1)) * x421002)) + x421001)) > (x421003.length : Int) then (some 4) else (some 0))
end
def mat_Matrix_Check.f (k : Nat) (a0_0 : Int) (a0_1 : Int) (a0_2 : Int) (l0_3 : List Int) : Option (Int) := if a0_0 < 0 then (mat_Matrix_Check.j0 k true a0_0 a0_1 a0_2 l0_3) else (if a0_0 > 4096 then (mat_Matrix_Check.j0 k true a0_0 a0_1 a0_2 l0_3) else (if a0_1 < 0 then (mat_Matrix_Check.j0 k true a0_0 a0_1 a0_2 l0_3) else (if a0_1 > 4096 then (mat_Matrix_Check.j0 k true a0_0 a0_1 a0_2 l0_3) else (if a0_2 < a0_1 then (mat_Matrix_Check.j0 k true a0_0 a0_1 a0_2 l0_3) else (mat_Matrix_Check.j0 k (decide (a0_2 > 1099511627776)) a0_0 a0_1 a0_2 l0_3)))))
theorem mat_Matrix_Check.mono_l : ∀ k, (∀ y0 y1 y2 y3 y4, LeO (mat_Matrix_Check.j0 k y0 y1 y2 y3 y4) (mat_Matrix_Check.j0 (k + 1) y0 y1 y2 y3 y4)) ∧ (∀ y0 y1 y2 y3 y4, LeO (mat_Matrix_Check.j1 k y0 y1 y2 y3 y4) (mat_Matrix_Check.j1 (k + 1) y0 y1 y2 y3 y4))
 | 0 => ⟨fun _ _ _ _ _ r h => by simp [mat_Matrix_Check.j0] at h, fun _ _ _ _ _ r h => by simp [mat_Matrix_Check.j1] at h⟩
 | k + 1 => by
  obtain ⟨ih0, ih1⟩ := mat_Matrix_Check.mono_l k
  refine ⟨?_, ?_⟩ <;> intros <;> (first | unfold mat_Matrix_Check.j0 | unfold mat_Matrix_Check.j1) <;>
   repeat' with_reducible first | apply ih0 | apply ih1 | exact LeO.refl _ | exact LeO.none _ | refine LeO.ite ?_ ?_ | refine LeO.bind ?_ (fun _ => ?_)
theorem mat_Matrix_Check.mono : ∀ a0 a1 a2 a3 k, LeO (mat_Matrix_Check.f k a0 a1 a2 a3) (mat_Matrix_Check.f (k + 1) a0 a1 a2 a3) := by
 intro a0 a1 a2 a3 k
 obtain ⟨ih0, ih1⟩ := mat_Matrix_Check.mono_l k
 unfold mat_Matrix_Check.f
 repeat' with_reducible first | apply ih0 | apply ih1 | exact LeO.refl _ | exact LeO.none _ | refine LeO.ite ?_ ?_ | refine LeO.bind ?_ (fun _ => ?_)
set_option maxHeartbeats 8000000 in
set_option maxRecDepth 100000 in
theorem mat_Matrix_Check.calls (k : Nat) (a0_0 : Int) (a0_1 : Int) (a0_2 : Int) (A0_3 : Option Addr) (c0_3 : Nat) (l0_3 : List Int) (r : Int) (w : World) (hr0_3 : Kd.C (Kd.int .u64) w A0_3 l0_3.length l0_3) (hc0_3 : l0_3.length ≤ c0_3) (h : mat_Matrix_Check.f k a0_0 a0_1 a0_2 l0_3 = some r) :
  Calls Tryd.prog 22 #[.agg #[.int .i64 a0_0, .int .i64 a0_1, .int .i64 a0_2, .slice A0_3 l0_3.length c0_3]] w fun e w' => e = .returned (.int .i64 r) ∧ Below w.heap.size w w' := by
 have hu25 := Tryd.underlying25
 have HR0_3 := Aside0.mk hr0_3
 have HC0_3 := Aside0.mk hc0_3
 clear hr0_3 hc0_3
 have HB := Aside0.mk (Below.refl w.heap.size w)
 have H : (if a0_0 < 0 then (mat_Matrix_Check.j0 k true a0_0 a0_1 a0_2 l0_3) else (if a0_0 > 4096 then (mat_Matrix_Check.j0 k true a0_0 a0_1 a0_2 l0_3) else (if a0_1 < 0 then (mat_Matrix_Check.j0 k true a0_0 a0_1 a0_2 l0_3) else (if a0_1 > 4096 then (mat_Matrix_Check.j0 k true a0_0 a0_1 a0_2 l0_3) else (if a0_2 < a0_1 then (mat_Matrix_Check.j0 k true a0_0 a0_1 a0_2 l0_3) else (mat_Matrix_Check.j0 k (decide (a0_2 > 1099511627776)) a0_0 a0_1 a0_2 l0_3)))))) = some r := h
 clear h
 have HC2 := Aside0.mk H
 clear H
 go_enter Tryd.func22, Tryd.ntmps22
 go_upto_region 1 with (first | ((with_reducible refine gate_dst (N := 1) rfl ?_); refine gbox (N := 1) (cs := #[.int .i64 a0_0, .int .i64 a0_1, .int .i64 a0_2, .slice A0_3 l0_3.length c0_3]) (t := 25) ?_; intro gb420 hg w3 hbox hb; refine ax4 (below_step bel hb) hbox ((ge hg : w.heap.size ≤ gb420)) ((ge hg : w.heap.size ≤ gb420)) ?_; clear HB; intro HB BK420 GW420 GE420; clear hb hbox hg))
 (try simp only [Act.put, sa0, sa1, sa2])
 go_cut [3] (fun v3 wc => ∃ (kq : Nat) (x3_1 : Bool), v3 = .bool x3_1 ∧ Aside0 (mat_Matrix_Check.j0 kq x3_1 a0_0 a0_1 a0_2 l0_3 = some r) ∧ Aside0 (kq ≤ k) ∧ Aside0 (wc.heap[gb420]? = some (.cells #[.int .i64 a0_0, .int .i64 a0_1, .int .i64 a0_2, (.slice A0_3 l0_3.length c0_3)] 25 (0, 0))) ∧ Aside0 (Below w.heap.size w wc))
 case first =>
  have H := HC2.out
  clear HC2
  by_cases c4 : a0_0 < 0
  ·
   rw [if_pos c4] at H
   have c4b0 : decide (a0_0 < 0) = true := decide_eq_true c4
   clear c4
   (first | rw [c4b0] | (simp only [i64_w, i32_w]; rw [c4b0]) | skip)
   have H' := Aside0.mk H
   clear H
   have hcz5_0 := bc BK420 0 rfl
   have hcz5_1 := bc BK420 1 rfl
   have hcz5_2 := bc BK420 2 rfl
   have hcz5_3 := bc BK420 3 rfl
   have hfz5_0 := blk_frozen BK420.out 0
   have hfz5_1 := blk_frozen BK420.out 1
   have hfz5_2 := blk_frozen BK420.out 2
   have hfz5_3 := blk_frozen BK420.out 3
   go_wp2
   go_meet
   case rel => exact ⟨_, (true), (by first | rfl | (simp; done) | (simp [*]; done)), H', ⟨by first | omega | exact Nat.le_refl _⟩, ⟨kb BK420⟩, ⟨bes⟩⟩
  ·
   rw [if_neg c4] at H
   have c4b0 : decide (a0_0 < 0) = false := decide_eq_false c4
   clear c4
   (first | rw [c4b0] | (simp only [i64_w, i32_w]; rw [c4b0]) | skip)
   by_cases c6 : a0_0 > 4096
   ·
    rw [if_pos c6] at H
    have c6b0 : decide (4096 < a0_0) = true := decide_eq_true c6
    clear c6
    have H' := Aside0.mk H
    clear H
    have hcz7_0 := bc BK420 0 rfl
    have hcz7_1 := bc BK420 1 rfl
    have hcz7_2 := bc BK420 2 rfl
    have hcz7_3 := bc BK420 3 rfl
    have hfz7_0 := blk_frozen BK420.out 0
    have hfz7_1 := blk_frozen BK420.out 1
    have hfz7_2 := blk_frozen BK420.out 2
    have hfz7_3 := blk_frozen BK420.out 3
    go_wp2
    go_meet
    case rel => exact ⟨_, (true), (by first | rfl | (simp; done) | (simp [*]; done)), H', ⟨by first | omega | exact Nat.le_refl _⟩, ⟨kb BK420⟩, ⟨bes⟩⟩
   ·
    rw [if_neg c6] at H
    have c6b0 : decide (4096 < a0_0) = false := decide_eq_false c6
    clear c6
    by_cases c8 : a0_1 < 0
    ·
     rw [if_pos c8] at H
     have c8b0 : decide (a0_1 < 0) = true := decide_eq_true c8
     clear c8
     have H' := Aside0.mk H
     clear H
     have hcz9_0 := bc BK420 0 rfl
     have hcz9_1 := bc BK420 1 rfl
     have hcz9_2 := bc BK420 2 rfl
     have hcz9_3 := bc BK420 3 rfl
     have hfz9_0 := blk_frozen BK420.out 0
     have hfz9_1 := blk_frozen BK420.out 1
     have hfz9_2 := blk_frozen BK420.out 2
     have hfz9_3 := blk_frozen BK420.out 3
     go_wp2
     go_meet
     case rel => exact ⟨_, (true), (by first | rfl | (simp; done) | (simp [*]; done)), H', ⟨by first | omega | exact Nat.le_refl _⟩, ⟨kb BK420⟩, ⟨bes⟩⟩
    ·
     rw [if_neg c8] at H
     have c8b0 : decide (a0_1 < 0) = false := decide_eq_false c8
     clear c8
     by_cases c10 : a0_1 > 4096
     ·
      rw [if_pos c10] at H
      have c10b0 : decide (4096 < a0_1) = true := decide_eq_true c10
      clear c10
      have H' := Aside0.mk H
      clear H
      have hcz11_0 := bc BK420 0 rfl
      have hcz11_1 := bc BK420 1 rfl
      have hcz11_2 := bc BK420 2 rfl
      have hcz11_3 := bc BK420 3 rfl
      have hfz11_0 := blk_frozen BK420.out 0
      have hfz11_1 := blk_frozen BK420.out 1
      have hfz11_2 := blk_frozen BK420.out 2
      have hfz11_3 := blk_frozen BK420.out 3
      go_wp2
      go_meet
      case rel => exact ⟨_, (true), (by first | rfl | (simp; done) | (simp [*]; done)), H', ⟨by first | omega | exact Nat.le_refl _⟩, ⟨kb BK420⟩, ⟨bes⟩⟩
     ·
      rw [if_neg c10] at H
      have c10b0 : decide (4096 < a0_1) = false := decide_eq_false c10
      clear c10
      by_cases c12 : a0_2 < a0_1
      ·
       rw [if_pos c12] at H
       have c12b0 : decide (a0_2 < a0_1) = true := decide_eq_true c12
       clear c12
       have H' := Aside0.mk H
       clear H
       have hcz13_0 := bc BK420 0 rfl
       have hcz13_1 := bc BK420 1 rfl
       have hcz13_2 := bc BK420 2 rfl
       have hcz13_3 := bc BK420 3 rfl
       have hfz13_0 := blk_frozen BK420.out 0
       have hfz13_1 := blk_frozen BK420.out 1
       have hfz13_2 := blk_frozen BK420.out 2
       have hfz13_3 := blk_frozen BK420.out 3
       go_wp2
       go_meet
       case rel => exact ⟨_, (true), (by first | rfl | (simp; done) | (simp [*]; done)), H', ⟨by first | omega | exact Nat.le_refl _⟩, ⟨kb BK420⟩, ⟨bes⟩⟩
      ·
       rw [if_neg c12] at H
       have c12b0 : decide (a0_2 < a0_1) = false := decide_eq_false c12
       clear c12
       have H' := Aside0.mk H
       clear H
       have hcz14_0 := bc BK420 0 rfl
       have hcz14_1 := bc BK420 1 rfl
       have hcz14_2 := bc BK420 2 rfl
       have hcz14_3 := bc BK420 3 rfl
       have hfz14_0 := blk_frozen BK420.out 0
       have hfz14_1 := blk_frozen BK420.out 1
       have hfz14_2 := blk_frozen BK420.out 2
       have hfz14_3 := blk_frozen BK420.out 3
       go_wp2
       go_meet
       case rel => exact ⟨_, (decide (a0_2 > 1099511627776)), (by first | rfl | (simp; done) | (simp [*]; done)), H', ⟨by first | omega | exact Nat.le_refl _⟩, ⟨kb BK420⟩, ⟨bes⟩⟩
 case rest =>
  clear HC2
  try clear c1
  try clear c2
  try clear p2
  try clear c4
  try clear c4b0
  try clear c6
  try clear c6b0
  try clear c8
  try clear c8b0
  try clear c10
  try clear c10b0
  try clear c12
  try clear c12b0
  try clear hcz11_0
  try clear hcz11_1
  try clear hcz11_2
  try clear hcz11_3
  try clear hcz13_0
  try clear hcz13_1
  try clear hcz13_2
  try clear hcz13_3
  try clear hcz14_0
  try clear hcz14_1
  try clear hcz14_2
  try clear hcz14_3
  try clear hcz5_0
  try clear hcz5_1
  try clear hcz5_2
  try clear hcz5_3
  try clear hcz7_0
  try clear hcz7_1
  try clear hcz7_2
  try clear hcz7_3
  try clear hcz9_0
  try clear hcz9_1
  try clear hcz9_2
  try clear hcz9_3
  try clear hfz11_0
  try clear hfz11_1
  try clear hfz11_2
  try clear hfz11_3
  try clear hfz13_0
  try clear hfz13_1
  try clear hfz13_2
  try clear hfz13_3
  try clear hfz14_0
  try clear hfz14_1
  try clear hfz14_2
  try clear hfz14_3
  try clear hfz5_0
  try clear hfz5_1
  try clear hfz5_2
  try clear hfz5_3
  try clear hfz7_0
  try clear hfz7_1
  try clear hfz7_2
  try clear hfz7_3
  try clear hfz9_0
  try clear hfz9_1
  try clear hfz9_2
  try clear hfz9_3
  obtain ⟨kq, x3_1, rfl, HA, HJ1, BK420, HB⟩ := hcut
  cases kq with
  | zero => exact absurd HA.out (by simp [mat_Matrix_Check.j0])
  | succ kj1 =>
   have H := HA.out
   clear HA
   simp only [mat_Matrix_Check.j0] at H
   by_cases c15 : x3_1 = true
   ·
    subst c15
    rw [if_pos rfl] at H
    obtain rfl := Option.some.inj H
    go_wp2
    go_ret
    exact ⟨er, bes⟩
   ·
    replace c15 := Bool.eq_false_iff.mpr c15
    subst c15
    rw [if_neg (show ¬ (false = true) by decide)] at H
    have HC16 := Aside0.mk H
    clear H
    go_upto_region 3 with (fail)
    go_cut [34] (fun v34 wc => ∃ (kq : Nat) (x34_15 : Bool), v34 = .bool x34_15 ∧ Aside0 (mat_Matrix_Check.j1 kq x34_15 a0_0 a0_1 a0_2 l0_3 = some r) ∧ Aside0 (kq ≤ kj1) ∧ Aside0 (wc.heap[gb420]? = some (.cells #[.int .i64 a0_0, .int .i64 a0_1, .int .i64 a0_2, (.slice A0_3 l0_3.length c0_3)] 25 (0, 0))) ∧ Aside0 (Below w.heap.size w wc))
    case first =>
     have H := HC16.out
     clear HC16
     by_cases c17 : a0_0 = 0
     ·
      rw [if_pos c17] at H
      have c17b0 : (a0_0 == 0) = true := beq_iff_eq.mpr c17
      have c17b1 : (a0_0 != 0) = false := bne_eq_false_iff_eq.mpr c17
      clear c17
      (first | rw [c17b0] | (simp only [i64_w, i32_w]; rw [c17b0]) | skip)
      have H' := Aside0.mk H
      clear H
      have hcz18_0 := bc BK420 0 rfl
      have hcz18_1 := bc BK420 1 rfl
      have hcz18_2 := bc BK420 2 rfl
      have hcz18_3 := bc BK420 3 rfl
      have hfz18_0 := blk_frozen BK420.out 0
      have hfz18_1 := blk_frozen BK420.out 1
      have hfz18_2 := blk_frozen BK420.out 2
      have hfz18_3 := blk_frozen BK420.out 3
      go_wp2
      go_meet
      case rel => exact ⟨_, (true), (by first | rfl | (simp; done) | (simp [*]; done)), H', ⟨by have := HJ1.out; first | omega | exact Nat.le_refl _⟩, ⟨kb BK420⟩, ⟨bes⟩⟩
     ·
      rw [if_neg c17] at H
      have c17b0 : (a0_0 == 0) = false := beq_eq_false_iff_ne.mpr c17
      have c17b1 : (a0_0 != 0) = true := bne_iff_ne.mpr c17
      (first | rw [c17b0] | (simp only [i64_w, i32_w]; rw [c17b0]) | skip)
      have H' := Aside0.mk H
      clear H
      have hcz19_0 := bc BK420 0 rfl
      have hcz19_1 := bc BK420 1 rfl
      have hcz19_2 := bc BK420 2 rfl
      have hcz19_3 := bc BK420 3 rfl
      have hfz19_0 := blk_frozen BK420.out 0
      have hfz19_1 := blk_frozen BK420.out 1
      have hfz19_2 := blk_frozen BK420.out 2
      have hfz19_3 := blk_frozen BK420.out 3
      go_wp2
      go_meet
      case rel => exact ⟨_, ((a0_1 == 0)), (by first | rfl | (simp; done) | (simp [*]; done)), H', ⟨by have := HJ1.out; first | omega | exact Nat.le_refl _⟩, ⟨kb BK420⟩, ⟨bes⟩⟩
    case rest =>
     clear HC16
     try clear c1
     try clear c2
     try clear p2
     try clear c4
     try clear c4b0
     try clear c6
     try clear c6b0
     try clear c8
     try clear c8b0
     try clear c10
     try clear c10b0
     try clear c12
     try clear c12b0
     try clear c15
     try clear c17
     try clear c17b0
     try clear c17b1
     try clear hcz11_0
     try clear hcz11_1
     try clear hcz11_2
     try clear hcz11_3
     try clear hcz13_0
     try clear hcz13_1
     try clear hcz13_2
     try clear hcz13_3
     try clear hcz14_0
     try clear hcz14_1
     try clear hcz14_2
     try clear hcz14_3
     try clear hcz18_0
     try clear hcz18_1
     try clear hcz18_2
     try clear hcz18_3
     try clear hcz19_0
     try clear hcz19_1
     try clear hcz19_2
     try clear hcz19_3
     try clear hcz5_0
     try clear hcz5_1
     try clear hcz5_2
     try clear hcz5_3
     try clear hcz7_0
     try clear hcz7_1
     try clear hcz7_2
     try clear hcz7_3
     try clear hcz9_0
     try clear hcz9_1
     try clear hcz9_2
     try clear hcz9_3
     try clear hfz11_0
     try clear hfz11_1
     try clear hfz11_2
     try clear hfz11_3
     try clear hfz13_0
     try clear hfz13_1
     try clear hfz13_2
     try clear hfz13_3
     try clear hfz14_0
     try clear hfz14_1
     try clear hfz14_2
     try clear hfz14_3
     try clear hfz18_0
     try clear hfz18_1
     try clear hfz18_2
     try clear hfz18_3
     try clear hfz19_0
     try clear hfz19_1
     try clear hfz19_2
     try clear hfz19_3
     try clear hfz5_0
     try clear hfz5_1
     try clear hfz5_2
     try clear hfz5_3
     try clear hfz7_0
     try clear hfz7_1
     try clear hfz7_2
     try clear hfz7_3
     try clear hfz9_0
     try clear hfz9_1
     try clear hfz9_2
     try clear hfz9_3
     try clear p2
     obtain ⟨kq, x34_15, rfl, HA, HJ15, BK420, HB⟩ := hcut
     cases kq with
     | zero => exact absurd HA.out (by simp [mat_Matrix_Check.j1])
     | succ kj15 =>
      have H := HA.out
      clear HA
      simp only [mat_Matrix_Check.j1] at H
      by_cases c20 : x34_15 = true
      ·
       subst c20
       rw [if_pos rfl] at H
       obtain rfl := Option.some.inj H
       go_wp2
       go_ret
       exact ⟨er, bes⟩
      ·
       replace c20 := Bool.eq_false_iff.mpr c20
       subst c20
       rw [if_neg (show ¬ (false = true) by decide)] at H
       by_cases c21 : (wrap64 ((wrap64 ((wrap64 (a0_0 - 1)) * a0_2)) + a0_1)) > (l0_3.length : Int)
       ·
        rw [if_pos c21] at H
        have c21b0 : decide ((l0_3.length : Int) < (wrap64 ((wrap64 ((wrap64 (a0_0 - 1)) * a0_2)) + a0_1))) = true := decide_eq_true c21
        clear c21
        obtain rfl := Option.some.inj H
        have hcz22_0 := bc BK420 0 rfl
        have hcz22_1 := bc BK420 1 rfl
        have hcz22_2 := bc BK420 2 rfl
        have hcz22_3 := bc BK420 3 rfl
        have hfz22_0 := blk_frozen BK420.out 0
        have hfz22_1 := blk_frozen BK420.out 1
        have hfz22_2 := blk_frozen BK420.out 2
        have hfz22_3 := blk_frozen BK420.out 3
        go_wp2
        go_ret
        exact ⟨er, bes⟩
       ·
        rw [if_neg c21] at H
        have c21b0 : decide ((l0_3.length : Int) < (wrap64 ((wrap64 ((wrap64 (a0_0 - 1)) * a0_2)) + a0_1))) = false := decide_eq_false c21
        clear c21
        obtain rfl := Option.some.inj H
        have hcz23_0 := bc BK420 0 rfl
        have hcz23_1 := bc BK420 1 rfl
        have hcz23_2 := bc BK420 2 rfl
        have hcz23_3 := bc BK420 3 rfl
        have hfz23_0 := blk_frozen BK420.out 0
        have hfz23_1 := blk_frozen BK420.out 1
        have hfz23_2 := blk_frozen BK420.out 2
        have hfz23_3 := blk_frozen BK420.out 3
        go_wp2
        go_ret
        exact ⟨er, bes⟩

/-! ### dyad_Int: function 23 -/
def dyad_Int.f (k : Nat) (a0 : Int) : Option (Bool × List Int × Int) := if a0 < 0 then ((dyad_trim.f k (decide (a0 < 0)) (([(IntKind.u64.wrap (-(IntKind.u64.wrap (a0)))) % 4294967296, ((IntKind.u64.wrap (-(IntKind.u64.wrap (a0)))) / 4294967296) % 4294967296] : List Int)) 0).bind fun bt425 => (some (bt425.1, bt425.2.1, bt425.2.2))) else ((dyad_trim.f k (decide (a0 < 0)) (([(IntKind.u64.wrap (a0)) % 4294967296, ((IntKind.u64.wrap (a0)) / 4294967296) % 4294967296] : List Int)) 0).bind fun bt433 => (some (bt433.1, bt433.2.1, bt433.2.2)))
theorem dyad_Int.mono : ∀ a0 k, LeO (dyad_Int.f k a0) (dyad_Int.f (k + 1) a0) := by
 intro a0 k
 unfold dyad_Int.f
 repeat' with_reducible first | apply dyad_trim.mono | exact LeO.refl _ | exact LeO.none _ | refine LeO.ite ?_ ?_ | refine LeO.bind ?_ (fun _ => ?_)
set_option maxHeartbeats 8000000 in
set_option maxRecDepth 100000 in
theorem dyad_Int.calls (k : Nat) (a0 : Int) (r1 : Bool) (r2 : List Int) (r3 : Int) (w : World) (hT : TabW w) (h : dyad_Int.f k a0 = some (r1, r2, r3)) :
  Calls Tryd.prog 23 #[.int .i64 a0] w fun e w' => ∃ v1_ : Value, e = .returned (.agg #[.bool r1, v1_, .int .i64 r3]) ∧ Kd.V (Kd.int .u32) 56 w' w.heap.size (fun k_ => (w.heap.size ≤ k_)) v1_ r2 ∧ Below w.heap.size w w' := by
 have hu29 := Tryd.underlying29
 have HB := Aside0.mk (Below.refl w.heap.size w)
 have H : (if a0 < 0 then ((dyad_trim.f k (decide (a0 < 0)) (([(IntKind.u64.wrap (-(IntKind.u64.wrap (a0)))) % 4294967296, ((IntKind.u64.wrap (-(IntKind.u64.wrap (a0)))) / 4294967296) % 4294967296] : List Int)) 0).bind fun bt425 => (some (bt425.1, bt425.2.1, bt425.2.2))) else ((dyad_trim.f k (decide (a0 < 0)) (([(IntKind.u64.wrap (a0)) % 4294967296, ((IntKind.u64.wrap (a0)) / 4294967296) % 4294967296] : List Int)) 0).bind fun bt433 => (some (bt433.1, bt433.2.1, bt433.2.2)))) = some (r1, r2, r3) := h
 clear h
 by_cases c2 : a0 < 0
 ·
  rw [if_pos c2] at H
  have c2b0 : decide (a0 < 0) = true := decide_eq_true c2
  clear c2
  obtain ⟨y422, hy422⟩ : ∃ y_ : List Int, y_ = (([(IntKind.u64.wrap (-(IntKind.u64.wrap (a0)))) % 4294967296, ((IntKind.u64.wrap (-(IntKind.u64.wrap (a0)))) / 4294967296) % 4294967296] : List Int)) := ⟨_, rfl⟩
  replace H : ((dyad_trim.f k (decide (a0 < 0)) y422 0).bind fun bt425 => (some (bt425.1, bt425.2.1, bt425.2.2))) = some (r1, r2, r3) := by first | (rw [hy422]; with_reducible exact H) | (have H2_ := (Option.bind_some _ _).symm.trans H; rw [hy422]; with_reducible exact H2_) | (have H2_ := (Option.bind_some _ _).symm.trans H; with_reducible exact H2_) | with_reducible exact H | (rw [hy422]; exact H) | exact H
  have Ny422 := Aside0.mk hy422
  clear hy422
  obtain ⟨⟨t425, t426, t429⟩, A30, H⟩ := Option.bind_eq_some_iff.mp H
  (try dsimp -simprocs only at H)
  have A3 := Aside0.mk A30
  clear A30
  simp only [Option.some.injEq, Prod.mk.injEq] at H
  obtain ⟨rfl, rfl, rfl⟩ := H
  go_enter Tryd.func23, Tryd.ntmps23
  go_wp2_with (first | ((with_reducible refine gate_dst (N := 2) rfl ?_); refine gbox (N := 2) (cs := #[.bool false, .slice none 0 0, .int .i64 0]) (t := 29) ?_; intro gb421 hg w4 hbox hb; refine ax4 (below_step bel hb) hbox ((ge hg : w.heap.size ≤ gb421)) ((ge hg : w.heap.size ≤ gb421)) ?_; clear HB; intro HB BK421 GW421 GE421; clear hb hbox hg) | ((with_reducible refine gate_dst (N := 17) rfl ?_); refine Kd.R_lit (Kd.int .u32) _ 56 ?hg (N := 17) ?hd (xs := ([(IntKind.u64.wrap (-(IntKind.u64.wrap (a0)))) % 4294967296, ((IntKind.u64.wrap (-(IntKind.u64.wrap (a0)))) / 4294967296) % 4294967296] : List Int)) (inner := [.int .u32 ((IntKind.u64.wrap (-(IntKind.u64.wrap (a0)))) % 4294967296), .int .u32 (((IntKind.u64.wrap (-(IntKind.u64.wrap (a0)))) / 4294967296) % 4294967296)]) (ok := fun _ => True) (okp := fun _ => True) ?hr ?hp (fun _ hk => hk) trivial (Below.refl _ _) (Nat.le_refl _) (by simp) ?_; (case hd => rfl); (case hg => rfl); (case hr => first | (go_simp; done) | (go_simp; rfl)); (case hp => exact (Reps.one (show Kd.M (Kd.int .u32) _ _ _ ((IntKind.u64.wrap (-(IntKind.u64.wrap (a0)))) % 4294967296) [.int .u32 ((IntKind.u64.wrap (-(IntKind.u64.wrap (a0)))) % 4294967296)] from rfl) (Reps.one (show Kd.M (Kd.int .u32) _ _ _ (((IntKind.u64.wrap (-(IntKind.u64.wrap (a0)))) / 4294967296) % 4294967296) [.int .u32 (((IntKind.u64.wrap (-(IntKind.u64.wrap (a0)))) / 4294967296) % 4294967296)] from rfl) (Reps.none _ _)))); intro v423 w5 ho6 hb hg_ hnew_; clear hg_ hnew_; (first | rw [← Ny422.out] at ho6 | (simp only [Int.reduceToNat] at ho6; rw [← Ny422.out] at ho6)); refine ax3 (Kd.R_lower (Kd.R_newM (M := fun k_ => (w.heap.size ≤ k_)) ho6 (below_size bes) (fun k_ h_ => h_)) (below_size bes)) (bb BK421 hb) (below_step bes hb) ?_; clear BK421; clear HB; intro HO424 BK421 HB; clear hb ho6; obtain ⟨Ao7, co7, eo7⟩ := Kd.R_slice HO424.out; subst eo7) | ((with_reducible refine gate_callee (f := 27) rfl ?_); refine goesL_ (some 18) rfl rfl Tryd.func27 (by kernel_rfl) rfl #[.bool (decide (a0 < 0)), .slice Ao7 y422.length co7, .int .i64 0] rfl (by (try simp only [List.map_toArray, List.map_cons, List.map_nil]); first | done | rfl | (rw [show (decide (a0 < 0)) = true from by assumption]; rfl) | (rw [show (decide (a0 < 0)) = false from by assumption]; rfl) | (simp only [List.length_drop, List.length_take]; rfl)) ?_; (with_reducible refine (dyad_trim.calls k (decide (a0 < 0)) (fun k_ => some k_ = (.slice Ao7 y422.length co7 : Value).ownBlock) _ _ y422 0 t425 t426 t429 _ ?side1 ?side2 A3.out).mono ?_); (case side1 => exact Kd.R_V (Kd.R_tight rfl (Kd.R_types (HO424.out) BK421.out (by decide)))); (case side2 => first | exact hT | exact TabW.drewN hT _ | exact TabW.drew hT | exact TabW.below hT bes); rintro e w8 ⟨v427, rfl, ho0, hb⟩; refine ⟨_, rfl, ?_⟩; refine ax4 (Kd.R_below (kr HO424) hb) (Kd.V_lower (Kd.V_mono (ok' := fun k_ => (w.heap.size ≤ k_) ∧ k_ ≠ gb421) ho0 (fun k_ hk_ => ⟨Or.elim hk_ (fun hs_ => ((Kd.R_types (HO424.out) BK421.out (by decide)).1 k_ hs_.symm).1.1) (fun hn_ => (Nat.le_trans (below_size bes) hn_)), Or.elim hk_ (fun hs_ => ((Kd.R_types (HO424.out) BK421.out (by decide)).1 k_ hs_.symm).2) (fun hn_ => (fb BK421 k_ hn_))⟩)) (below_size bes)) (bb BK421 hb) (below_step bes hb) ?_; clear HO424; clear BK421; clear HB; intro HO424 HO428 BK421 HB; (try clear hb); (try clear ho0); have hcz9_0 := bc BK421 0 rfl; have hcz9_1 := bc BK421 1 rfl; have hcz9_2 := bc BK421 2 rfl; have hfz9_0 := blk_frozen BK421.out 0; have hfz9_1 := blk_frozen BK421.out 1; have hfz9_2 := blk_frozen BK421.out 2; obtain ⟨Ao10, co10, eo10⟩ := Kd.V_slice HO428.out; subst eo10))
  refine bodyPost_ret (results_cell_row rfl _ _ gb421 29 #[.bool t425, .slice Ao10 t426.length co10, .int .i64 t429] (0, 0) _ rfl (by (with_reducible repeat (first | refine blk_drewN ?_ _ | refine blk_drew ?_ | refine blk_alloc ?_ _)); refine blk_put (cs := #[.bool t425, .slice Ao10 t426.length co10, .int .i64 0]) ?_ 2 _ rfl; (with_reducible repeat (first | refine blk_drewN ?_ _ | refine blk_drew ?_ | refine blk_alloc ?_ _)); refine blk_put (cs := #[.bool t425, .slice none 0 0, .int .i64 0]) ?_ 1 _ rfl; (with_reducible repeat (first | refine blk_drewN ?_ _ | refine blk_drew ?_ | refine blk_alloc ?_ _)); refine blk_put (cs := #[.bool false, .slice none 0 0, .int .i64 0]) ?_ 0 _ rfl; (with_reducible repeat (first | refine blk_drewN ?_ _ | refine blk_drew ?_ | refine blk_alloc ?_ _)); exact BK421.out) Tryd.underlying29 rfl (by kernel_rfl)) rfl ?_
  exact ⟨_, er, by (with_reducible repeat (first | apply Kd.V_alloc | apply Kd.V_drewN | apply Kd.V_drew)); exact Kd.V_mono (Kd.V_far (p := ⟨gb421, 2, none⟩) (Kd.V_far (p := ⟨gb421, 1, none⟩) (Kd.V_far (p := ⟨gb421, 0, none⟩) (Kd.V_mono HO428.out (fun k_ hk => (⟨hk, hk.2⟩ : _ ∧ k_ ≠ gb421))) (fun _ hk => hk.2) (.bool t425)) (fun _ hk => hk.2) (.slice Ao10 t426.length co10)) (fun _ hk => hk.2) (.int .i64 t429)) (fun _ hk => hk.1.1), bes⟩
 ·
  rw [if_neg c2] at H
  have c2b0 : decide (a0 < 0) = false := decide_eq_false c2
  clear c2
  obtain ⟨y430, hy430⟩ : ∃ y_ : List Int, y_ = (([(IntKind.u64.wrap (a0)) % 4294967296, ((IntKind.u64.wrap (a0)) / 4294967296) % 4294967296] : List Int)) := ⟨_, rfl⟩
  replace H : ((dyad_trim.f k (decide (a0 < 0)) y430 0).bind fun bt433 => (some (bt433.1, bt433.2.1, bt433.2.2))) = some (r1, r2, r3) := by first | (rw [hy430]; with_reducible exact H) | (have H2_ := (Option.bind_some _ _).symm.trans H; rw [hy430]; with_reducible exact H2_) | (have H2_ := (Option.bind_some _ _).symm.trans H; with_reducible exact H2_) | with_reducible exact H | (rw [hy430]; exact H) | exact H
  have Ny430 := Aside0.mk hy430
  clear hy430
  obtain ⟨⟨t433, t434, t437⟩, A110, H⟩ := Option.bind_eq_some_iff.mp H
  (try dsimp -simprocs only at H)
  have A11 := Aside0.mk A110
  clear A110
  simp only [Option.some.injEq, Prod.mk.injEq] at H
  obtain ⟨rfl, rfl, rfl⟩ := H
  go_enter Tryd.func23, Tryd.ntmps23
  go_wp2_with (first | ((with_reducible refine gate_dst (N := 2) rfl ?_); refine gbox (N := 2) (cs := #[.bool false, .slice none 0 0, .int .i64 0]) (t := 29) ?_; intro gb421 hg w12 hbox hb; refine ax4 (below_step bel hb) hbox ((ge hg : w.heap.size ≤ gb421)) ((ge hg : w.heap.size ≤ gb421)) ?_; clear HB; intro HB BK421 GW421 GE421; clear hb hbox hg) | ((with_reducible refine gate_dst (N := 17) rfl ?_); refine Kd.R_lit (Kd.int .u32) _ 56 ?hg (N := 17) ?hd (xs := ([(IntKind.u64.wrap (a0)) % 4294967296, ((IntKind.u64.wrap (a0)) / 4294967296) % 4294967296] : List Int)) (inner := [.int .u32 ((IntKind.u64.wrap (a0)) % 4294967296), .int .u32 (((IntKind.u64.wrap (a0)) / 4294967296) % 4294967296)]) (ok := fun _ => True) (okp := fun _ => True) ?hr ?hp (fun _ hk => hk) trivial (Below.refl _ _) (Nat.le_refl _) (by simp) ?_; (case hd => rfl); (case hg => rfl); (case hr => first | (go_simp; done) | (go_simp; rfl)); (case hp => exact (Reps.one (show Kd.M (Kd.int .u32) _ _ _ ((IntKind.u64.wrap (a0)) % 4294967296) [.int .u32 ((IntKind.u64.wrap (a0)) % 4294967296)] from rfl) (Reps.one (show Kd.M (Kd.int .u32) _ _ _ (((IntKind.u64.wrap (a0)) / 4294967296) % 4294967296) [.int .u32 (((IntKind.u64.wrap (a0)) / 4294967296) % 4294967296)] from rfl) (Reps.none _ _)))); intro v431 w13 ho14 hb hg_ hnew_; clear hg_ hnew_; (first | rw [← Ny430.out] at ho14 | (simp only [Int.reduceToNat] at ho14; rw [← Ny430.out] at ho14)); refine ax3 (Kd.R_lower (Kd.R_newM (M := fun k_ => (w.heap.size ≤ k_)) ho14 (below_size bes) (fun k_ h_ => h_)) (below_size bes)) (bb BK421 hb) (below_step bes hb) ?_; clear BK421; clear HB; intro HO432 BK421 HB; clear hb ho14; obtain ⟨Ao15, co15, eo15⟩ := Kd.R_slice HO432.out; subst eo15) | ((with_reducible refine gate_callee (f := 27) rfl ?_); refine goesL_ (some 18) rfl rfl Tryd.func27 (by kernel_rfl) rfl #[.bool (decide (a0 < 0)), .slice Ao15 y430.length co15, .int .i64 0] rfl (by (try simp only [List.map_toArray, List.map_cons, List.map_nil]); first | done | rfl | (rw [show (decide (a0 < 0)) = true from by assumption]; rfl) | (rw [show (decide (a0 < 0)) = false from by assumption]; rfl) | (simp only [List.length_drop, List.length_take]; rfl)) ?_; (with_reducible refine (dyad_trim.calls k (decide (a0 < 0)) (fun k_ => some k_ = (.slice Ao15 y430.length co15 : Value).ownBlock) _ _ y430 0 t433 t434 t437 _ ?side1 ?side2 A11.out).mono ?_); (case side1 => exact Kd.R_V (Kd.R_tight rfl (Kd.R_types (HO432.out) BK421.out (by decide)))); (case side2 => first | exact hT | exact TabW.drewN hT _ | exact TabW.drew hT | exact TabW.below hT bes); rintro e w16 ⟨v435, rfl, ho0, hb⟩; refine ⟨_, rfl, ?_⟩; refine ax4 (Kd.R_below (kr HO432) hb) (Kd.V_lower (Kd.V_mono (ok' := fun k_ => (w.heap.size ≤ k_) ∧ k_ ≠ gb421) ho0 (fun k_ hk_ => ⟨Or.elim hk_ (fun hs_ => ((Kd.R_types (HO432.out) BK421.out (by decide)).1 k_ hs_.symm).1.1) (fun hn_ => (Nat.le_trans (below_size bes) hn_)), Or.elim hk_ (fun hs_ => ((Kd.R_types (HO432.out) BK421.out (by decide)).1 k_ hs_.symm).2) (fun hn_ => (fb BK421 k_ hn_))⟩)) (below_size bes)) (bb BK421 hb) (below_step bes hb) ?_; clear HO432; clear BK421; clear HB; intro HO432 HO436 BK421 HB; (try clear hb); (try clear ho0); have hcz17_0 := bc BK421 0 rfl; have hcz17_1 := bc BK421 1 rfl; have hcz17_2 := bc BK421 2 rfl; have hfz17_0 := blk_frozen BK421.out 0; have hfz17_1 := blk_frozen BK421.out 1; have hfz17_2 := blk_frozen BK421.out 2; obtain ⟨Ao18, co18, eo18⟩ := Kd.V_slice HO436.out; subst eo18))
  refine bodyPost_ret (results_cell_row rfl _ _ gb421 29 #[.bool t433, .slice Ao18 t434.length co18, .int .i64 t437] (0, 0) _ rfl (by (with_reducible repeat (first | refine blk_drewN ?_ _ | refine blk_drew ?_ | refine blk_alloc ?_ _)); refine blk_put (cs := #[.bool t433, .slice Ao18 t434.length co18, .int .i64 0]) ?_ 2 _ rfl; (with_reducible repeat (first | refine blk_drewN ?_ _ | refine blk_drew ?_ | refine blk_alloc ?_ _)); refine blk_put (cs := #[.bool t433, .slice none 0 0, .int .i64 0]) ?_ 1 _ rfl; (with_reducible repeat (first | refine blk_drewN ?_ _ | refine blk_drew ?_ | refine blk_alloc ?_ _)); refine blk_put (cs := #[.bool false, .slice none 0 0, .int .i64 0]) ?_ 0 _ rfl; (with_reducible repeat (first | refine blk_drewN ?_ _ | refine blk_drew ?_ | refine blk_alloc ?_ _)); exact BK421.out) Tryd.underlying29 rfl (by kernel_rfl)) rfl ?_
  exact ⟨_, er, by (with_reducible repeat (first | apply Kd.V_alloc | apply Kd.V_drewN | apply Kd.V_drew)); exact Kd.V_mono (Kd.V_far (p := ⟨gb421, 2, none⟩) (Kd.V_far (p := ⟨gb421, 1, none⟩) (Kd.V_far (p := ⟨gb421, 0, none⟩) (Kd.V_mono HO436.out (fun k_ hk => (⟨hk, hk.2⟩ : _ ∧ k_ ≠ gb421))) (fun _ hk => hk.2) (.bool t433)) (fun _ hk => hk.2) (.slice Ao18 t434.length co18)) (fun _ hk => hk.2) (.int .i64 t437)) (fun _ hk => hk.1.1), bes⟩

end Go.Proofs.YtenegelkbfmjkaaDoor.F
