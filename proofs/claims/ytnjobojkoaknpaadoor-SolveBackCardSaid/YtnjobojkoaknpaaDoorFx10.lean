-- Written by a program of this seat's session (mkprint), out of the translation.
import Derived.Test.YtnjobojkoaknpaaDoorShort
import Derived.Test.YtnjobojkoaknpaaDoorFx0
import Derived.Test.YtnjobojkoaknpaaDoorFx2
import Derived.Test.YtnjobojkoaknpaaDoorFx4
import Derived.Test.YtnjobojkoaknpaaDoorFx6
import Derived.Test.YtnjobojkoaknpaaDoorFx9
namespace Go.Proofs.YtnjobojkoaknpaaDoor.F
open Go.RowKit Go.Proofs.YtnjobojkoaknpaaDoorW.PrintWords Go.Proofs.YtnjobojkoaknpaaDoorW.PrintLast Go.Proofs.YtnjobojkoaknpaaDoorW.PrintMore
attribute [local go_sem] max2_int min2_int max_two min_two max_three min_three max_four min_four   -- for this text's walks alone
set_option linter.unusedVariables false
set_option linter.unusedSimpArgs false

/-! ### dyad_Num_Near: function 9 -/
def dyad_Num_Near.l0 : Nat → Int → Int → Bool → List Int → Int → Int → Bool → List Int → Int → Int → Int → Option (Int × Int)
 | 0, _, _, _, _, _, _, _, _, _, _, _ => none
 | k + 1, x4, x6, x7, x16, x17, x18, x414000, x414001, x414002, x415000, x415001 => if x18 < x17 then (if 0 ≤ x18 then (if x18 < (x16.length : Int) then (if x18 < (wrap64 (x4 - 3)) then (dyad_Num_Near.l0 k x4 (wrap64 (x6 + 32)) true x16 x17 (wrap64 (x18 + 1)) x414000 x414001 x414002 x415000 x415001) else ((wide_Wide_Left.f 0 (IntKind.u64.wrap (rd x16 x18)) (wrap64 (32 * (wrap64 (x18 - (mx 0 (wrap64 (x4 - 3)))))))).bind fun bt418 => ((wide_Wide_Add.f x415000 x415001 bt418.1 bt418.2).bind fun bt420 => (dyad_Num_Near.l0 k x4 x6 x7 x16 x17 (wrap64 (x18 + 1)) x414000 x414001 x414002 bt420.1 bt420.2.1)))) else (none)) else (none)) else ((round_Round.f k x414000 x415000 x415001 x6 x7).bind fun bt415 => (some (bt415.1, bt415.2)))
def dyad_Num_Near.f (k : Nat) (a0_0 : Bool) (l0_1 : List Int) (a0_2 : Int) : Option (Int × Int) := dyad_Num_Near.l0 k (l0_1.length : Int) a0_2 false l0_1 (l0_1.length : Int) 0 a0_0 l0_1 a0_2 0 0
theorem dyad_Num_Near.mono_l : ∀ k, (∀ y0 y1 y2 y3 y4 y5 y6 y7 y8 y9 y10, LeO (dyad_Num_Near.l0 k y0 y1 y2 y3 y4 y5 y6 y7 y8 y9 y10) (dyad_Num_Near.l0 (k + 1) y0 y1 y2 y3 y4 y5 y6 y7 y8 y9 y10))
 | 0 => fun _ _ _ _ _ _ _ _ _ _ _ r h => by simp [dyad_Num_Near.l0] at h
 | k + 1 => by
  have ih0 := dyad_Num_Near.mono_l k
  ·
   intro y0 y1 y2 y3 y4 y5 y6 y7 y8 y9 y10
   unfold dyad_Num_Near.l0
   repeat' with_reducible first | apply ih0 | apply round_Round.mono | exact LeO.refl _ | exact LeO.none _ | refine LeO.ite ?_ ?_ | refine LeO.bind ?_ (fun _ => ?_)
theorem dyad_Num_Near.mono : ∀ a0 a1 a2 k, LeO (dyad_Num_Near.f k a0 a1 a2) (dyad_Num_Near.f (k + 1) a0 a1 a2) := by
 intro a0 a1 a2 k
 have ih0 := dyad_Num_Near.mono_l k
 unfold dyad_Num_Near.f
 repeat' with_reducible first | apply ih0 | apply round_Round.mono | exact LeO.refl _ | exact LeO.none _ | refine LeO.ite ?_ ?_ | refine LeO.bind ?_ (fun _ => ?_)
def dyad_Num_Near.T10 : Bool × List (List Nat × List Nat) := (true, [([], []), ([], []), ([1], [1]), ([2], [2]), ([], []), ([], []), ([5], [5]), ([6], [6]), ([4, 7], [4, 7]), ([8], [8]), ([3, 9], [3, 9]), ([0, 10, 10], [0, 10]), ([11], [11]), ([12], [12]), ([12], [12]), ([13, 11, 0, 1, 2, 3, 4, 5, 6, 7, 8, 9, 10, 11, 12, 13], [13])])
def dyad_Num_Near.B10 : List Nat := [0, 0, 2, 6, 0, 0, 32, 96, 240, 496, 1022, 2047, 4095, 8191, 8191, 16383]
theorem dyad_Num_Near.tab10 : rtab .any (opsOf Tryd.f9 10) = dyad_Num_Near.T10 := by kernel_rfl
theorem dyad_Num_Near.bits10 : waitsOk dyad_Num_Near.T10.2 dyad_Num_Near.B10 = true := by kernel_rfl
set_option maxHeartbeats 8000000 in
set_option maxRecDepth 100000 in
theorem dyad_Num_Near.calls (k : Nat) (a0_0 : Bool) (A0_1 : Option Addr) (c0_1 : Nat) (l0_1 : List Int) (a0_2 : Int) (r1 : Int) (r2 : Int) (w : World) (hr0_1 : Kd.C (Kd.int .u32) w A0_1 l0_1.length l0_1) (hc0_1 : l0_1.length ≤ c0_1) (h : dyad_Num_Near.f k a0_0 l0_1 a0_2 = some (r1, r2)) :
  Calls Tryd.prog 9 #[.agg #[.bool a0_0, .slice A0_1 l0_1.length c0_1, .int .i64 a0_2]] w fun e w' => e = .returned (.tuple #[.int .u64 r1, .int .u8 r2]) ∧ Below w.heap.size w w' := by
 have hu29 := Tryd.underlying29
 have hu65 := Tryd.underlying65
 have HR0_1 := Aside0.mk hr0_1
 have HC0_1 := Aside0.mk hc0_1
 clear hr0_1 hc0_1
 have HB := Aside0.mk (Below.refl w.heap.size w)
 have H : (dyad_Num_Near.l0 k (l0_1.length : Int) a0_2 false l0_1 (l0_1.length : Int) 0 a0_0 l0_1 a0_2 0 0) = some (r1, r2) := h
 clear h
 have H' := Aside0.mk H
 clear H
 go_enter Tryd.func9, Tryd.ntmps9
 go_wp2_with (first | ((with_reducible refine gate_dst (N := 1) rfl ?_); refine gbox (N := 1) (cs := #[.bool a0_0, .slice A0_1 l0_1.length c0_1, .int .i64 a0_2]) (t := 29) ?_; intro gb413 hg w2 hbox hb; refine ax4 (below_step bel hb) hbox ((ge hg : w.heap.size ≤ gb413)) ((ge hg : w.heap.size ≤ gb413)) ?_; clear HB; intro HB BK413 GW413 GE413; clear hb hbox hg; have hcz3_0 := bc BK413 0 rfl; have hcz3_1 := bc BK413 1 rfl; have hcz3_2 := bc BK413 2 rfl; have hfz3_0 := blk_frozen BK413.out 0; have hfz3_1 := blk_frozen BK413.out 1; have hfz3_2 := blk_frozen BK413.out 2) | ((with_reducible refine gate_dst (N := 5) rfl ?_); refine gbox (N := 5) (cs := #[.int .u64 0, .int .u64 0]) (t := 65) ?_; intro gb414 hg w4 hbox hb; refine ax7 (bb BK413 hb) (below_step bes hb) hbox ((ge hg : w.heap.size ≤ gb414)) ((ge hg : w.heap.size ≤ gb414)) (nl hg BK413) (ng hg BK413) ?_; clear BK413; clear HB; intro BK413 HB BK414 GW414 GE414 NB413_414 NB414_413; clear hb hbox hg; have hnb5 := NB413_414.out; have hnc5 := NB414_413.out; have hcz6_0 := bc BK413 0 rfl; have hcz6_1 := bc BK413 1 rfl; have hcz6_2 := bc BK413 2 rfl; have hfz6_0 := blk_frozen BK413.out 0; have hfz6_1 := blk_frozen BK413.out 1; have hfz6_2 := blk_frozen BK413.out 2))
 go_loopg [6, 7, 18] k (fun kq v6 v7 v18 w' => ∃ (x6_1 : Int) (x7_1 : Bool) (x18_1 : Int) (x415000_1 : Int) (x415001_1 : Int), v6 = .int .i64 x6_1 ∧ v7 = .bool x7_1 ∧ v18 = .int .i64 x18_1 ∧ Aside0 (dyad_Num_Near.l0 kq (l0_1.length : Int) x6_1 x7_1 l0_1 (l0_1.length : Int) x18_1 a0_0 l0_1 a0_2 x415000_1 x415001_1 = some (r1, r2)) ∧ Aside0 (kq ≤ k) ∧ Aside0 (w'.heap[gb413]? = some (.cells #[.bool a0_0, (.slice A0_1 l0_1.length c0_1), .int .i64 a0_2] 29 (0, 0))) ∧ Aside0 (w'.heap[gb414]? = some (.cells #[.int .u64 x415000_1, .int .u64 x415001_1] 65 (0, 0))) ∧ Aside0 (Below w.heap.size w w'))
 case atStart => exact ⟨(a0_2), (false), (0), (0), (0), (by first | rfl | (simp; done) | (simp [*]; done)), (by first | rfl | (simp; done) | (simp [*]; done)), (by first | rfl | (simp; done) | (simp [*]; done)), H', ⟨Nat.le_refl _⟩, ⟨kb BK413⟩, ⟨kb BK414⟩, ⟨bes⟩⟩
 case round =>
  clear H'
  try clear p2
  try clear c5
  try clear hcz3_0
  try clear hcz3_1
  try clear hcz3_2
  try clear hcz6_0
  try clear hcz6_1
  try clear hcz6_2
  try clear hfz3_0
  try clear hfz3_1
  try clear hfz3_2
  try clear hfz6_0
  try clear hfz6_1
  try clear hfz6_2
  obtain ⟨x6_1, x7_1, x18_1, x415000_1, x415001_1, rfl, rfl, rfl, HA, HK1, BK413, BK414, HB⟩ := hrel
  cases gk with
  | zero => exact absurd HA.out (by simp [dyad_Num_Near.l0])
  | succ k1 =>
   have H := HA.out
   clear HA
   simp only [dyad_Num_Near.l0] at H
   by_cases c7 : x18_1 < (l0_1.length : Int)
   ·
    rw [if_pos c7] at H
    have c7b0 : decide (x18_1 < (l0_1.length : Int)) = true := decide_eq_true c7
    clear c7
    by_cases c8 : 0 ≤ x18_1
    rotate_left
    ·
     rw [if_neg c8] at H
     exact absurd H (by simp)
    rw [if_pos c8] at H
    have c8b0 : decide (0 ≤ x18_1) = true := decide_eq_true c8
    clear c8
    by_cases c9 : x18_1 < (l0_1.length : Int)
    rotate_left
    ·
     rw [if_neg c9] at H
     exact absurd H (by simp)
    rw [if_pos c9] at H
    have c9b0 : decide (x18_1 < (l0_1.length : Int)) = true := decide_eq_true c9
    clear c9
    by_cases c10 : x18_1 < (wrap64 ((l0_1.length : Int) - 3))
    ·
     rw [if_pos c10] at H
     have c10b0 : decide (x18_1 < (wrap64 ((l0_1.length : Int) - 3))) = true := decide_eq_true c10
     clear c10
     have H' := Aside0.mk H
     clear H
     have p417 : 0 ≤ (x18_1 : Int) := of_decide_eq_true (by first | (with_reducible assumption) | assumption)
     have q417 : x18_1 < (l0_1.length : Int) := of_decide_eq_true (by first | (with_reducible assumption) | assumption)
     obtain ⟨ad417, e417, hx417_0⟩ := Kd.at_int HR0_1.out x18_1 p417 q417
     cases e417
     replace hx417_0 := (HB.out.cell (World.block_lt_of_cell? w _ hx417_0)).trans hx417_0
     replace p417 := eq_true p417
     replace q417 := eq_true q417
     go_wp2
     go_roundg k1
     case measure => have := HK1.out; omega
     case rel => exact ⟨(wrap64 (x6_1 + 32)), (true), (wrap64 (x18_1 + 1)), (x415000_1), (x415001_1), (by first | rfl | (simp; done) | (simp [*]; done)), (by first | rfl | (simp; done) | (simp [*]; done)), (by first | rfl | (simp; done) | (simp [*]; done)), H', ⟨by have := HK1.out; omega⟩, ⟨kb BK413⟩, ⟨kb BK414⟩, ⟨bes⟩⟩
    ·
     rw [if_neg c10] at H
     have c10b0 : decide (x18_1 < (wrap64 ((l0_1.length : Int) - 3))) = false := decide_eq_false c10
     clear c10
     obtain ⟨ji11, hji11⟩ : ∃ j_ : Int, (mx 0 (wrap64 ((l0_1.length : Int) - 3))) = j_ := ⟨_, rfl⟩
     replace H : ((wide_Wide_Left.f 0 (IntKind.u64.wrap (rd l0_1 x18_1)) (wrap64 (32 * (wrap64 (x18_1 - (ji11)))))).bind fun bt418 => ((wide_Wide_Add.f x415000_1 x415001_1 bt418.1 bt418.2).bind fun bt420 => (dyad_Num_Near.l0 k1 (l0_1.length : Int) x6_1 x7_1 l0_1 (l0_1.length : Int) (wrap64 (x18_1 + 1)) a0_0 l0_1 a0_2 bt420.1 bt420.2.1))) = some (r1, r2) := by first | (rw [hji11] at H; exact H) | (simp only [hji11] at H ⊢; exact H)
     have hji11_ : (if 0 < (wrap64 ((l0_1.length : Int) - 3)) then (wrap64 ((l0_1.length : Int) - 3)) else 0) = ji11 := hji11
     obtain ⟨⟨t418, t419⟩, A120, H⟩ := Option.bind_eq_some_iff.mp H
     (try dsimp -simprocs only at H)
     have A12 := Aside0.mk A120
     clear A120
     obtain ⟨⟨t420, t421, t422⟩, A130, H⟩ := Option.bind_eq_some_iff.mp H
     (try dsimp -simprocs only at H)
     have A13 := Aside0.mk A130
     clear A130
     have H' := Aside0.mk H
     clear H
     have p417 : 0 ≤ (x18_1 : Int) := of_decide_eq_true (by first | (with_reducible assumption) | assumption)
     have q417 : x18_1 < (l0_1.length : Int) := of_decide_eq_true (by first | (with_reducible assumption) | assumption)
     obtain ⟨ad417, e417, hx417_0⟩ := Kd.at_int HR0_1.out x18_1 p417 q417
     cases e417
     replace hx417_0 := (HB.out.cell (World.block_lt_of_cell? w _ hx417_0)).trans hx417_0
     replace p417 := eq_true p417
     replace q417 := eq_true q417
     try go_wp2
     refine ax3 (blk_drew BK413.out) (blk_drew BK414.out) (below_drew1 HB.out) ?_
     clear BK413 BK414 HB
     intro BK413 BK414 HB
     refine start_ (n := 16) (S := fun w' => w'.cell? ⟨gb414, 0, none⟩ = some (.int .u64 x415000_1) ∧ w'.cell? ⟨gb414, 1, none⟩ = some (.int .u64 x415001_1)) (ds := [15]) #[false, false, false, false, false, false, false, false, false, false, false, false, false, false, false, false] (by kernel_rfl) rfl rfl ⟨bk BK414 0, bk BK414 1⟩ (fun hHeld => ?_); refine with_tabW dyad_Num_Near.tab10 dyad_Num_Near.bits10 (fun HT_ HW_ => ?_)
     generalize wr.drew = w14 at BK413 BK414 HB hHeld ⊢
     refine pu 1 31 (lm 16 2) HT_ ?_
     refine pu 2 32 (lm 16 6) HT_ ?_
     refine pu 3 33 (lm 16 14) HT_ ?_
     refine pu 4 34 (lm 16 30) HT_ ?_
     refine pu 5 35 (lm 16 62) HT_ ?_
     refine pu 6 36 (lm 16 126) HT_ ?_
     refine pu 7 37 (lm 16 254) HT_ ?_
     refine pu 8 38 (lm 16 510) HT_ ?_
     refine pu 9 39 (lm 16 1022) HT_ ?_
     refine ta 0 30 (lm 16 1023) HT_ HW_ hHeld ?_
     refine on 10 (some 40) (lm 16 2047) HT_ (fun K hK => ?_)
     refine goes_ Tryd.func34 (by kernel_rfl) rfl #[.agg #[.int .u64 0, .int .u64 (IntKind.u64.wrap (rd l0_1 x18_1))], .int .i64 (wrap64 (32 * (wrap64 (x18_1 - (ji11)))))] (by rfl) rfl rfl (by (try simp only [List.map_toArray, List.map_cons, List.map_nil]); first | done | (simp only [hji11]; rfl) | rfl | (simp only [List.length_drop, List.length_take]; rfl)) ?_
     with_reducible refine (wide_Wide_Left.calls 0 (IntKind.u64.wrap (rd l0_1 x18_1)) (wrap64 (32 * (wrap64 (x18_1 - (ji11))))) t418 t419 _ A12.out).mono ?_
     rintro e w15 ⟨rfl, hb⟩
     refine ⟨_, rfl, ?_⟩
     refine ax3 (bb BK413 hb) (bb BK414 hb) (below_step bes hb) ?_
     clear BK413 BK414 HB
     intro BK413 BK414 HB
     (try clear hb)
     (try clear hb2)
     (try clear hk)
     (try clear hi)
     refine hK.out _ _ ⟨bk BK414 0, bk BK414 1⟩ (fun hHeld => ?_)
     clear hK K
     refine no 40 ?_
     refine on 11 (some 41) (lm 16 4095) HT_ (fun K hK => ?_)
     refine goes_ Tryd.func33 (by kernel_rfl) rfl #[.agg #[.int .u64 x415000_1, .int .u64 x415001_1], .agg #[.int .u64 t418, .int .u64 t419]] (by rfl) rfl rfl ga ?_
     with_reducible refine (wide_Wide_Add.calls x415000_1 x415001_1 t418 t419 t420 t421 t422 _ A13.out).mono ?_
     rintro e w16 ⟨rfl, hb⟩
     refine ⟨_, rfl, ?_⟩
     refine ax3 (bb BK413 hb) (bb BK414 hb) (below_step bes hb) ?_
     clear BK413 BK414 HB
     intro BK413 BK414 HB
     (try clear hb)
     (try clear hb2)
     (try clear hk)
     (try clear hi)
     refine hK.out _ _ ⟨bk BK414 0, bk BK414 1⟩ (fun hHeld => ?_)
     clear hK K
     refine no 41 ?_
     refine pu 12 29 (lm 16 8191) HT_ ?_
     refine pu 13 42 (lm 16 16383) HT_ ?_
     refine pu 14 43 (lm 16 32767) HT_ ?_
     refine last_ (i := 15) (N := none) #[true, true, true, true, true, true, true, true, true, true, true, true, true, true, true, true] rfl rfl (one_of HT_.out (by kernel_rfl)) (by decide) (fun K hK => ?_)
     have hs17 : w16.cell? ⟨gb414, 0, none⟩ = some (.int .u64 x415000_1) := bk BK414 0
     have hfs17 := blk_frozen BK414.out 0
     have hns17_0 := NB413_414.out
     have hms17_0 := NB414_413.out
     have hs18 : w16.cell? ⟨gb414, 1, none⟩ = some (.int .u64 x415001_1) := bk BK414 1
     have hfs18 := blk_frozen BK414.out 1
     have hns18_0 := NB413_414.out
     have hms18_0 := NB414_413.out
     refine skip_ (w1 := ?_) (by rfl) rfl ?_ ?_
     rotate_left
     ·
      go_simp
      rfl
     refine hK.out _ _ ?_
     clear hK K
     refine done_ (done_of HT_.out (by kernel_rfl)) ?_
     try go_wp2
     go_roundg k1
     case measure => have := HK1.out; omega
     case rel => exact ⟨(x6_1), (x7_1), (wrap64 (x18_1 + 1)), (t420), (t421), (by first | rfl | (simp; done) | (simp [*]; done)), (by first | rfl | (simp; done) | (simp [*]; done)), (by first | rfl | (simp; done) | (simp [*]; done)), H', ⟨by have := HK1.out; omega⟩, ⟨bf BK413 NB413_414⟩, ⟨bp BK414⟩, ⟨bes⟩⟩
   ·
    rw [if_neg c7] at H
    have c7b0 : decide (x18_1 < (l0_1.length : Int)) = false := decide_eq_false c7
    clear c7
    obtain ⟨⟨t415, t416⟩, A190, H⟩ := Option.bind_eq_some_iff.mp H
    (try dsimp -simprocs only at H)
    have A19 := Aside0.mk A190
    clear A190
    simp only [Option.some.injEq, Prod.mk.injEq] at H
    obtain ⟨rfl, rfl⟩ := H
    have hnb20 := NB413_414.out
    have hnc20 := NB414_413.out
    have hcz21_0 := bc BK413 0 rfl
    have hcz21_1 := bc BK413 1 rfl
    have hcz21_2 := bc BK413 2 rfl
    have hfz21_0 := blk_frozen BK413.out 0
    have hfz21_1 := blk_frozen BK413.out 1
    have hfz21_2 := blk_frozen BK413.out 2
    have hcz22_0 := bc BK414 0 rfl
    have hcz22_1 := bc BK414 1 rfl
    have hfz22_0 := blk_frozen BK414.out 0
    have hfz22_1 := blk_frozen BK414.out 1
    go_wp2_with (first | ((with_reducible refine gate_callee (f := 35) rfl ?_); refine goesL_ (some 50) rfl rfl Tryd.func35 (by kernel_rfl) rfl #[.bool a0_0, .agg #[.int .u64 x415000_1, .int .u64 x415001_1], .int .i64 x6_1, .bool x7_1] rfl ga ?_; (with_reducible refine (round_Round.calls k1 a0_0 x415000_1 x415001_1 x6_1 x7_1 t415 t416 _ A19.out).mono ?_); rintro e w23 ⟨rfl, hb⟩; refine ⟨_, rfl, ?_⟩; refine ax3 (bb BK413 hb) (bb BK414 hb) (below_step bes hb) ?_; clear BK413; clear BK414; clear HB; intro BK413 BK414 HB; (try clear hb)))
    go_ret2
    exact ⟨er, bes⟩

/-! ### gimballaw12_SolveBack_1: function 7 -/
def gimballaw12_SolveBack_1.f (k : Nat) (a0 : Int) : Option (Int) := (dyad_Int.f k a0).bind fun bt423 => ((dyad_Num_Near.f k bt423.1 bt423.2.1 bt423.2.2).bind fun bt428 => (some bt428.1))
theorem gimballaw12_SolveBack_1.mono : ∀ a0 k, LeO (gimballaw12_SolveBack_1.f k a0) (gimballaw12_SolveBack_1.f (k + 1) a0) := by
 intro a0 k
 unfold gimballaw12_SolveBack_1.f
 repeat' with_reducible first | apply dyad_Int.mono | apply dyad_Num_Near.mono | exact LeO.refl _ | exact LeO.none _ | refine LeO.ite ?_ ?_ | refine LeO.bind ?_ (fun _ => ?_)
set_option maxHeartbeats 8000000 in
set_option maxRecDepth 100000 in
theorem gimballaw12_SolveBack_1.calls (k : Nat) (a0 : Int) (r : Int) (w : World) (hT : TabW w) (h : gimballaw12_SolveBack_1.f k a0 = some r) :
  Calls Tryd.prog 7 #[.int .i64 a0] w fun e w' => e = .returned (.int .u64 r) ∧ Below w.heap.size w w' := by
 have HB := Aside0.mk (Below.refl w.heap.size w)
 have H : ((dyad_Int.f k a0).bind fun bt423 => ((dyad_Num_Near.f k bt423.1 bt423.2.1 bt423.2.2).bind fun bt428 => (some bt428.1))) = some r := h
 clear h
 obtain ⟨⟨t423, t424, t427⟩, A20, H⟩ := Option.bind_eq_some_iff.mp H
 (try dsimp -simprocs only at H)
 have A2 := Aside0.mk A20
 clear A20
 obtain ⟨⟨t428, t429⟩, A30, H⟩ := Option.bind_eq_some_iff.mp H
 (try dsimp -simprocs only at H)
 have A3 := Aside0.mk A30
 clear A30
 obtain rfl := Option.some.inj H
 go_enter Tryd.func7, Tryd.ntmps7
 go_wp2_with (first | ((with_reducible refine gate_callee (f := 8) rfl ?_); refine goesL_ (some 7) rfl rfl Tryd.func8 (by kernel_rfl) rfl #[.int .i64 a0] rfl ga ?_; (with_reducible refine (dyad_Int.calls k a0 t423 t424 t427 _ ?side1 A2.out).mono ?_); (case side1 => first | exact hT | exact TabW.drewN hT _ | exact TabW.drew hT | exact TabW.below hT bel); rintro e w4 ⟨v425, rfl, ho0, hb⟩; refine ⟨_, rfl, ?_⟩; refine ax2 (Kd.V_lower (Kd.V_mono (ok' := fun k_ => True) ho0 (fun k_ hk_ => trivial)) (below_size bel)) (below_step bel hb) ?_; clear HB; intro HO426 HB; (try clear hb); (try clear ho0); obtain ⟨Ao5, co5, eo5⟩ := Kd.V_slice HO426.out; subst eo5) | ((with_reducible refine gate_callee (f := 9) rfl ?_); refine goesL_ (some 8) rfl rfl Tryd.func9 (by kernel_rfl) rfl #[.agg #[.bool t423, .slice Ao5 t424.length co5, .int .i64 t427]] rfl ga ?_; (with_reducible refine (dyad_Num_Near.calls k t423 _ _ t424 t427 t428 t429 _ ?side1 ?side2 A3.out).mono ?_); (case side1 => exact kvs HO426); (case side2 => exact (Kd.V_reads' HO426.out).2.1); rintro e w6 ⟨rfl, hb⟩; refine ⟨_, rfl, ?_⟩; refine ax2 (Kd.V_below (kv HO426) hb) (below_step bel hb) ?_; clear HO426; clear HB; intro HO426 HB; (try clear hb)))
 go_ret
 exact ⟨er, bel⟩

/-! ### soft_Calc_Add_nil: function 39 -/
def soft_Calc_Add_nil.f (k : Nat)  (a1 : Int) (a2 : Int) : Option (Int) := (soft_Add.f k a1 a2).bind fun bt434 => ((soft_Calc_note_nil.f bt434.1 bt434.2).bind fun t436 => (some t436))
theorem soft_Calc_Add_nil.mono : ∀ a0 a1 k, LeO (soft_Calc_Add_nil.f k a0 a1) (soft_Calc_Add_nil.f (k + 1) a0 a1) := by
 intro a0 a1 k
 unfold soft_Calc_Add_nil.f
 repeat' with_reducible first | apply soft_Add.mono | exact LeO.refl _ | exact LeO.none _ | refine LeO.ite ?_ ?_ | refine LeO.bind ?_ (fun _ => ?_)
set_option maxHeartbeats 8000000 in
set_option maxRecDepth 100000 in
theorem soft_Calc_Add_nil.calls (k : Nat)  (a1 : Int) (a2 : Int) (r : Int) (w : World) (h : soft_Calc_Add_nil.f k a1 a2 = some r) :
  Calls Tryd.prog 39 #[.pointer none, .int .u64 a1, .int .u64 a2] w fun e w' => e = .returned (.int .u64 r) ∧ Below w.heap.size w w' := by
 have HB := Aside0.mk (Below.refl w.heap.size w)
 have H : ((soft_Add.f k a1 a2).bind fun bt434 => ((soft_Calc_note_nil.f bt434.1 bt434.2).bind fun t436 => (some t436))) = some r := h
 clear h
 obtain ⟨⟨t434, t435⟩, A40, H⟩ := Option.bind_eq_some_iff.mp H
 (try dsimp -simprocs only at H)
 have A4 := Aside0.mk A40
 clear A40
 obtain ⟨t436, A50, H⟩ := Option.bind_eq_some_iff.mp H
 (try dsimp -simprocs only at H)
 have A5 := Aside0.mk A50
 clear A50
 obtain rfl := Option.some.inj H
 go_enter Tryd.func39, Tryd.ntmps39
 go_wp2_with (first | ((with_reducible refine gate_callee (f := 62) rfl ?_); refine goesL_ (some 10) rfl rfl Tryd.func62 (by kernel_rfl) rfl #[.int .u64 a1, .int .u64 a2] rfl ga ?_; (with_reducible refine (soft_Add.calls k a1 a2 t434 t435 _ A4.out).mono ?_); rintro e w6 ⟨rfl, hb⟩; refine ⟨_, rfl, ?_⟩; refine ax1 (below_step bel hb) ?_; clear HB; intro HB; (try clear hb)) | ((with_reducible refine gate_callee (f := 58) rfl ?_); refine goesL_ (some 13) rfl rfl Tryd.func58 (by kernel_rfl) rfl #[.pointer none, .int .u64 t434, .int .u8 t435] rfl ga ?_; (with_reducible refine (soft_Calc_note_nil.calls  t434 t435 t436 _ A5.out).mono ?_); rintro e w' ⟨rfl, ⟨nd, rfl⟩⟩; refine ⟨_, rfl, ?_⟩))
 go_ret
 exact ⟨er, bel⟩

end Go.Proofs.YtnjobojkoaknpaaDoor.F
