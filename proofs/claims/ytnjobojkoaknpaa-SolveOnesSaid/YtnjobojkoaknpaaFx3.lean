-- Written by a program of this seat's session (mkprint), out of the translation.
import Derived.Test.YtnjobojkoaknpaaShort
import Derived.Test.YtnjobojkoaknpaaFx0
import Derived.Test.YtnjobojkoaknpaaFx1
import Derived.Test.YtnjobojkoaknpaaFx2
namespace Go.Proofs.Ytnjobojkoaknpaa.F
open Go.RowKit Go.Proofs.YtnjobojkoaknpaaW.PrintWords Go.Proofs.YtnjobojkoaknpaaW.PrintLast Go.Proofs.YtnjobojkoaknpaaW.PrintMore
attribute [local go_sem] max2_int min2_int max_two min_two max_three min_three max_four min_four   -- for this text's walks alone
set_option linter.unusedVariables false
set_option linter.unusedSimpArgs false

attribute [local go_sem high] eqA67
/-! ### wide_Wide_Right: function 53 -/
def wide_Wide_Right.j0 : Nat → Int → Int → Int → Int → Int → Option (Int × Int × Bool)
 | 0, _, _, _, _, _ => none
 | k + 1, x1, x121000, x121001, x123000, x123001 => (wide_Wide_Left.f x123000 x123001 x1).bind fun bt123 => (if (!(bt123.1 == x121000) || (!(bt123.2 == x121001))) = true then (some (x123000, x123001, true)) else (if x1 ≥ 128 then ((wide_Wide_Zero.f x121000 x121001).bind fun t125 => (some (x123000, x123001, !t125))) else (some (x123000, x123001, false))))
def wide_Wide_Right.f (k : Nat) (a0_0 : Int) (a0_1 : Int) (a1 : Int) : Option (Int × Int × Bool) := if a1 ≤ 0 then (some (a0_0, a0_1, false)) else (if a1 ≥ 128 then (wide_Wide_Right.j0 k a1 a0_0 a0_1 0 0) else (if a1 ≥ 64 then (if 0 ≤ (wrap64 (a1 - 64)) then (wide_Wide_Right.j0 k a1 a0_0 a0_1 0 (shr .u64 a0_0 (wrap64 (a1 - 64)))) else (none)) else (if 0 ≤ a1 then (if 0 ≤ (wrap64 (64 - a1)) then (wide_Wide_Right.j0 k a1 a0_0 a0_1 (shr .u64 a0_0 a1) (Go.bits .or .u64 (shl .u64 a0_0 (wrap64 (64 - a1))) (shr .u64 a0_1 a1))) else (none)) else (none))))
theorem wide_Wide_Right.mono_l : ∀ k, (∀ y0 y1 y2 y3 y4, LeO (wide_Wide_Right.j0 k y0 y1 y2 y3 y4) (wide_Wide_Right.j0 (k + 1) y0 y1 y2 y3 y4))
 | 0 => fun _ _ _ _ _ r h => by simp [wide_Wide_Right.j0] at h
 | k + 1 => by
  have ih0 := wide_Wide_Right.mono_l k
  ·
   intro y0 y1 y2 y3 y4
   unfold wide_Wide_Right.j0
   repeat' with_reducible first | apply ih0 | exact LeO.refl _ | exact LeO.none _ | refine LeO.ite ?_ ?_ | refine LeO.bind ?_ (fun _ => ?_)
theorem wide_Wide_Right.mono : ∀ a0 a1 a2 k, LeO (wide_Wide_Right.f k a0 a1 a2) (wide_Wide_Right.f (k + 1) a0 a1 a2) := by
 intro a0 a1 a2 k
 have ih0 := wide_Wide_Right.mono_l k
 unfold wide_Wide_Right.f
 repeat' with_reducible first | apply ih0 | exact LeO.refl _ | exact LeO.none _ | refine LeO.ite ?_ ?_ | refine LeO.bind ?_ (fun _ => ?_)
def wide_Wide_Right.T2 : Bool × List (List Nat × List Nat) := (true, [([], []), ([0], [0]), ([], []), ([1, 2], [1, 2]), ([], []), ([4], [4]), ([], []), ([6], [6]), ([5, 7], [5, 7]), ([], []), ([9], [9]), ([], []), ([10, 11], [10, 11]), ([8, 12], [8, 12]), ([3, 13], [3, 13]), ([14, 0, 1, 2, 3, 4, 5, 6, 7, 8, 9, 10, 11, 12, 13, 14], [14])])
def wide_Wide_Right.B2 : List Nat := [0, 1, 0, 7, 0, 16, 0, 64, 240, 0, 512, 0, 3584, 8176, 16383, 32767]
theorem wide_Wide_Right.tab2 : rtab .any (opsOf Try.f53 2) = wide_Wide_Right.T2 := by kernel_rfl
theorem wide_Wide_Right.bits2 : waitsOk wide_Wide_Right.T2.2 wide_Wide_Right.B2 = true := by kernel_rfl
def wide_Wide_Right.T8 : Bool × List (List Nat × List Nat) := (true, [([], []), ([], []), ([], []), ([1, 2], [1, 2]), ([], []), ([3, 4], [3, 4]), ([5, 3], [5]), ([6], [6]), ([7, 6], [6, 7]), ([8, 6, 6], [6, 8]), ([9], [9]), ([10, 9, 9], [9, 10]), ([11, 9], [9, 11]), ([9, 12, 6], [6, 9, 12]), ([6, 13], [6, 13]), ([0, 11, 0], [0]), ([14, 15, 0, 1, 2, 3, 4, 5, 6, 7, 8, 9, 10, 11, 12, 13, 14, 15], [14])])
def wide_Wide_Right.B8 : List Nat := [0, 0, 0, 6, 0, 30, 62, 126, 254, 510, 1022, 2046, 4094, 8190, 16382, 4095, 65535]
theorem wide_Wide_Right.tab8 : rtab .any (opsOf Try.f53 8) = wide_Wide_Right.T8 := by kernel_rfl
theorem wide_Wide_Right.bits8 : waitsOk wide_Wide_Right.T8.2 wide_Wide_Right.B8 = true := by kernel_rfl
set_option maxHeartbeats 8000000 in
set_option maxRecDepth 100000 in
theorem wide_Wide_Right.calls (k : Nat) (a0_0 : Int) (a0_1 : Int) (a1 : Int) (r1 : Int) (r2 : Int) (r3 : Bool) (w : World) (h : wide_Wide_Right.f k a0_0 a0_1 a1 = some (r1, r2, r3)) :
  Calls Try.prog 53 #[.agg #[.int .u64 a0_0, .int .u64 a0_1], .int .i64 a1] w fun e w' => e = .returned (.tuple #[.agg #[.int .u64 r1, .int .u64 r2], .bool r3]) ∧ Below w.heap.size w w' := by
 have hu67 := Try.underlying67
 have HB := Aside0.mk (Below.refl w.heap.size w)
 have H : (if a1 ≤ 0 then (some (a0_0, a0_1, false)) else (if a1 ≥ 128 then (wide_Wide_Right.j0 k a1 a0_0 a0_1 0 0) else (if a1 ≥ 64 then (if 0 ≤ (wrap64 (a1 - 64)) then (wide_Wide_Right.j0 k a1 a0_0 a0_1 0 (shr .u64 a0_0 (wrap64 (a1 - 64)))) else (none)) else (if 0 ≤ a1 then (if 0 ≤ (wrap64 (64 - a1)) then (wide_Wide_Right.j0 k a1 a0_0 a0_1 (shr .u64 a0_0 a1) (Go.bits .or .u64 (shl .u64 a0_0 (wrap64 (64 - a1))) (shr .u64 a0_1 a1))) else (none)) else (none))))) = some (r1, r2, r3) := h
 clear h
 have HC3 := Aside0.mk H
 clear H
 go_enter Try.func53, Try.ntmps53
 go_upto_block 0 with (first | ((with_reducible refine gate_dst (N := 2) rfl ?_); refine gbox (N := 2) (cs := #[.int .u64 a0_0, .int .u64 a0_1]) (t := 67) ?_; intro gb120 hg w4 hbox hb; refine ax4 (below_step bel hb) hbox ((ge hg : w.heap.size ≤ gb120)) ((ge hg : w.heap.size ≤ gb120)) ?_; clear HB; intro HB BK120 GW120 GE120; clear hb hbox hg) | ((with_reducible refine gate_dst (N := 4) rfl ?_); refine gbox (N := 4) (cs := #[.int .u64 0, .int .u64 0]) (t := 67) ?_; intro gb121 hg w5 hbox hb; refine ax7 (bb BK120 hb) (below_step bes hb) hbox ((ge hg : w.heap.size ≤ gb121)) ((ge hg : w.heap.size ≤ gb121)) (nl hg BK120) (ng hg BK120) ?_; clear BK120; clear HB; intro BK120 HB BK121 GW121 GE121 NB120_121 NB121_120; clear hb hbox hg) | ((with_reducible refine gate_dst (N := 6) rfl ?_); refine gbox (N := 6) (cs := #[.int .u64 0, .int .u64 0]) (t := 67) ?_; intro gb122 hg w6 hbox hb; refine ax10 (bb BK120 hb) (bb BK121 hb) (below_step bes hb) hbox ((ge hg : w.heap.size ≤ gb122)) ((ge hg : w.heap.size ≤ gb122)) (nl hg BK120) (ng hg BK120) (nl hg BK121) (ng hg BK121) ?_; clear BK120; clear BK121; clear HB; intro BK120 BK121 HB BK122 GW122 GE122 NB120_122 NB122_120 NB121_122 NB122_121; clear hb hbox hg))
 (try simp only [Act.put, sa0, sa1, sa2])
 go_cut [] (fun wc => ∃ (kq : Nat) (x122000_2 : Int) (x122001_2 : Int) (x123000_2 : Int) (x123001_2 : Int), Aside0 (wide_Wide_Right.j0 kq a1 a0_0 a0_1 x123000_2 x123001_2 = some (r1, r2, r3)) ∧ Aside0 (kq ≤ k) ∧ Aside0 (wc.heap[gb120]? = some (.cells #[.int .u64 a0_0, .int .u64 a0_1] 67 (0, 0))) ∧ Aside0 (wc.heap[gb121]? = some (.cells #[.int .u64 x122000_2, .int .u64 x122001_2] 67 (0, 0))) ∧ Aside0 (wc.heap[gb122]? = some (.cells #[.int .u64 x123000_2, .int .u64 x123001_2] 67 (0, 0))) ∧ Aside0 (Below w.heap.size w wc))
 case first =>
  have H := HC3.out
  clear HC3
  by_cases c7 : a1 ≤ 0
  ·
   rw [if_pos c7] at H
   have c7b0 : decide (a1 ≤ 0) = true := decide_eq_true c7
   clear c7
   (first | rw [c7b0] | (simp only [i64_w, i32_w]; rw [c7b0]) | skip)
   simp only [Option.some.injEq, Prod.mk.injEq] at H
   obtain ⟨rfl, rfl, rfl⟩ := H
   have hnb8 := NB120_121.out
   have hnc8 := NB121_120.out
   have hnb9 := NB120_122.out
   have hnc9 := NB122_120.out
   have hcz10_0 := bc BK120 0 rfl
   have hcz10_1 := bc BK120 1 rfl
   have hfz10_0 := blk_frozen BK120.out 0
   have hfz10_1 := blk_frozen BK120.out 1
   have hnb11 := NB121_122.out
   have hnc11 := NB122_121.out
   have hcz12_0 := bc BK121 0 rfl
   have hcz12_1 := bc BK121 1 rfl
   have hfz12_0 := blk_frozen BK121.out 0
   have hfz12_1 := blk_frozen BK121.out 1
   go_wp2
   refine bodyPost_ret (results_ct rfl _ _ gb121 67 #[.int .u64 a0_0, .int .u64 a0_1] (0, 0) _ rfl (bp BK121) Try.underlying67 rfl (by kernel_rfl)) rfl ?_
   exact ⟨er, bes⟩
  ·
   rw [if_neg c7] at H
   have c7b0 : decide (a1 ≤ 0) = false := decide_eq_false c7
   clear c7
   (first | rw [c7b0] | (simp only [i64_w, i32_w]; rw [c7b0]) | skip)
   by_cases c13 : a1 ≥ 128
   ·
    rw [if_pos c13] at H
    have c13b0 : decide (128 ≤ a1) = true := decide_eq_true c13
    clear c13
    have H' := Aside0.mk H
    clear H
    go_wp2
    go_meet
    case rel => exact ⟨_, (0), (0), (0), (0), H', ⟨by first | omega | exact Nat.le_refl _⟩, ⟨kb BK120⟩, ⟨kb BK121⟩, ⟨kb BK122⟩, ⟨bes⟩⟩
   ·
    rw [if_neg c13] at H
    have c13b0 : decide (128 ≤ a1) = false := decide_eq_false c13
    clear c13
    by_cases c14 : a1 ≥ 64
    ·
     rw [if_pos c14] at H
     have c14b0 : decide (64 ≤ a1) = true := decide_eq_true c14
     clear c14
     obtain ⟨ji15, hji15⟩ : ∃ j_ : Int, (wrap64 (a1 - 64)) = j_ := ⟨_, rfl⟩
     replace H : (if 0 ≤ (ji15) then (wide_Wide_Right.j0 k a1 a0_0 a0_1 0 (shr .u64 a0_0 (ji15))) else (none)) = some (r1, r2, r3) := by first | (rw [hji15] at H; exact H) | (simp only [hji15] at H ⊢; exact H)
     have hji15w : (IntKind.i64.wrap (a1 - 64)) = ji15 := (i64_w _).trans hji15
     by_cases c16 : 0 ≤ (ji15)
     rotate_left
     ·
      rw [if_neg c16] at H
      exact absurd H (by simp)
     rw [if_pos c16] at H
     have c16b0 := eq_true c16
     have c16b1 : decide (0 ≤ (ji15)) = true := decide_eq_true c16
     clear c16
     obtain ⟨ji17, hji17⟩ : ∃ j_ : Int, (shr .u64 a0_0 (ji15)) = j_ := ⟨_, rfl⟩
     replace H : (wide_Wide_Right.j0 k a1 a0_0 a0_1 0 ji17) = some (r1, r2, r3) := by first | (rw [hji17] at H; exact H) | (simp only [hji17] at H ⊢; exact H)
     have hji17_ : (a0_0 / 2 ^ min (ji15).toNat 64) = ji17 := hji17
     have hji17z : (ji15) ≤ 64 → (a0_0 / 2 ^ (ji15).toNat) = ji17 := shr_small hji17
     have H' := Aside0.mk H
     clear H
     have hnb18 := NB120_121.out
     have hnc18 := NB121_120.out
     have hnb19 := NB120_122.out
     have hnc19 := NB122_120.out
     have hcz20_0 := bc BK120 0 rfl
     have hcz20_1 := bc BK120 1 rfl
     have hfz20_0 := blk_frozen BK120.out 0
     have hfz20_1 := blk_frozen BK120.out 1
     have hnb21 := NB122_121.out
     have hnc21 := NB121_122.out
     have hcz22_0 := bc BK122 0 rfl
     have hcz22_1 := bc BK122 1 rfl
     have hfz22_0 := blk_frozen BK122.out 0
     have hfz22_1 := blk_frozen BK122.out 1
     go_wp2
     go_meet
     case rel => exact ⟨_, (0), (0), (0), (ji17), H', ⟨by first | omega | exact Nat.le_refl _⟩, ⟨bf BK120 NB120_122⟩, ⟨bf BK121 NB121_122⟩, ⟨bp BK122⟩, ⟨bes⟩⟩
    ·
     rw [if_neg c14] at H
     have c14b0 : decide (64 ≤ a1) = false := decide_eq_false c14
     clear c14
     by_cases c23 : 0 ≤ a1
     rotate_left
     ·
      rw [if_neg c23] at H
      exact absurd H (by simp)
     rw [if_pos c23] at H
     have c23b0 := eq_true c23
     have c23b1 : decide (0 ≤ a1) = true := decide_eq_true c23
     clear c23
     obtain ⟨ji24, hji24⟩ : ∃ j_ : Int, (shr .u64 a0_0 a1) = j_ := ⟨_, rfl⟩
     replace H : (if 0 ≤ (wrap64 (64 - a1)) then (wide_Wide_Right.j0 k a1 a0_0 a0_1 ji24 (Go.bits .or .u64 (shl .u64 a0_0 (wrap64 (64 - a1))) (shr .u64 a0_1 a1))) else (none)) = some (r1, r2, r3) := by first | (rw [hji24] at H; exact H) | (simp only [hji24] at H ⊢; exact H)
     have hji24_ : (a0_0 / 2 ^ min a1.toNat 64) = ji24 := hji24
     have hji24z : a1 ≤ 64 → (a0_0 / 2 ^ a1.toNat) = ji24 := shr_small hji24
     obtain ⟨ji25, hji25⟩ : ∃ j_ : Int, (wrap64 (64 - a1)) = j_ := ⟨_, rfl⟩
     replace H : (if 0 ≤ (ji25) then (wide_Wide_Right.j0 k a1 a0_0 a0_1 ji24 (Go.bits .or .u64 (shl .u64 a0_0 (ji25)) (shr .u64 a0_1 a1))) else (none)) = some (r1, r2, r3) := by first | (rw [hji25] at H; exact H) | (simp only [hji25] at H ⊢; exact H)
     have hji25w : (IntKind.i64.wrap (64 - a1)) = ji25 := (i64_w _).trans hji25
     by_cases c26 : 0 ≤ (ji25)
     rotate_left
     ·
      rw [if_neg c26] at H
      exact absurd H (by simp)
     rw [if_pos c26] at H
     have c26b0 := eq_true c26
     have c26b1 : decide (0 ≤ (ji25)) = true := decide_eq_true c26
     clear c26
     obtain ⟨ji27, hji27⟩ : ∃ j_ : Int, (shl .u64 a0_0 (ji25)) = j_ := ⟨_, rfl⟩
     replace H : (wide_Wide_Right.j0 k a1 a0_0 a0_1 ji24 (Go.bits .or .u64 (ji27) (shr .u64 a0_1 a1))) = some (r1, r2, r3) := by first | (rw [hji27] at H; exact H) | (simp only [hji27] at H ⊢; exact H)
     have hji27_ : (IntKind.u64.wrap (a0_0 * 2 ^ min (ji25).toNat 64)) = ji27 := hji27
     have hji27z : (ji25) ≤ 64 → (IntKind.u64.wrap (a0_0 * 2 ^ (ji25).toNat)) = ji27 := shl_small hji27
     have c28b0 := eq_true (of_decide_eq_true (by first | (with_reducible assumption) | assumption) : 0 ≤ a1)
     obtain ⟨ji29, hji29⟩ : ∃ j_ : Int, (shr .u64 a0_1 a1) = j_ := ⟨_, rfl⟩
     replace H : (wide_Wide_Right.j0 k a1 a0_0 a0_1 ji24 (Go.bits .or .u64 (ji27) (ji29))) = some (r1, r2, r3) := by first | (rw [hji29] at H; exact H) | (simp only [hji29] at H ⊢; exact H)
     have hji29_ : (a0_1 / 2 ^ min a1.toNat 64) = ji29 := hji29
     have hji29z : a1 ≤ 64 → (a0_1 / 2 ^ a1.toNat) = ji29 := shr_small hji29
     have H' := Aside0.mk H
     clear H
     try go_wp2
     refine ax4 (blk_drew BK120.out) (blk_drew BK121.out) (blk_drew BK122.out) (below_drew1 HB.out) ?_
     clear BK120 BK121 BK122 HB
     intro BK120 BK121 BK122 HB
     refine start_ (n := 16) (S := fun w' => w'.cell? ⟨gb120, 0, none⟩ = some (.int .u64 a0_0) ∧ w'.cell? ⟨gb120, 1, none⟩ = some (.int .u64 a0_1)) (ds := []) #[false, false, false, false, false, false, false, false, false, false, false, false, false, false, false, false] (by kernel_rfl) rfl rfl ⟨bk BK120 0, bk BK120 1⟩ (fun hHeld => ?_); refine with_tabW wide_Wide_Right.tab2 wide_Wide_Right.bits2 (fun HT_ HW_ => ?_)
     generalize w6.drew = w30 at BK120 BK121 BK122 HB hHeld ⊢
     refine pu 0 7 (lm 16 1) HT_ ?_
     refine pu 2 9 (lm 16 5) HT_ ?_
     refine pu 4 11 (lm 16 21) HT_ ?_
     refine pu 6 13 (lm 16 85) HT_ ?_
     refine pu 7 14 (lm 16 213) HT_ ?_
     refine pu 9 16 (lm 16 725) HT_ ?_
     refine pu 11 18 (lm 16 2773) HT_ ?_
     refine ta 1 8 (lm 16 2775) HT_ HW_ hHeld ?_
     refine pu 3 10 (lm 16 2783) HT_ ?_
     refine ta 5 12 (lm 16 2815) HT_ HW_ hHeld ?_
     refine pu 8 15 (lm 16 3071) HT_ ?_
     refine ta 10 17 (lm 16 4095) HT_ HW_ hHeld ?_
     refine pu 12 19 (lm 16 8191) HT_ ?_
     refine pu 13 20 (lm 16 16383) HT_ ?_
     refine pu 14 21 (lm 16 32767) HT_ ?_
     refine on 15 none (lm 16 65535) HT_ (fun K hK => ?_)
     have hs31 : w30.cell? ⟨gb122, 0, none⟩ = some (.int .u64 0) := bk BK122 0
     have hfs31 := blk_frozen BK122.out 0
     have hns31_0 := NB120_122.out
     have hns31_1 := NB121_122.out
     have hms31_0 := NB122_120.out
     have hms31_1 := NB122_121.out
     have hs32 : w30.cell? ⟨gb122, 1, none⟩ = some (.int .u64 0) := bk BK122 1
     have hfs32 := blk_frozen BK122.out 1
     have hns32_0 := NB120_122.out
     have hns32_1 := NB121_122.out
     have hms32_0 := NB122_120.out
     have hms32_1 := NB122_121.out
     refine skip_ (w1 := ?_) (by rfl) rfl ?_ ?_
     rotate_left
     ·
      go_simp
      rfl
     refine hK.out _ _ ⟨((cell_far (p := ⟨gb122, _, none⟩) NB120_122.out _).trans (((cell_far (p := ⟨gb122, _, none⟩) NB120_122.out _).trans (hHeld.1)))), ((cell_far (p := ⟨gb122, _, none⟩) NB120_122.out _).trans (((cell_far (p := ⟨gb122, _, none⟩) NB120_122.out _).trans (hHeld.2))))⟩ (fun hHeld => ?_)
     clear hK K
     refine done_ (done_of HT_.out (by kernel_rfl)) ?_
     try go_wp2
     go_meet
     case rel => exact ⟨_, (0), (0), (ji24), (Go.bits .or .u64 (ji27) (ji29)), H', ⟨by first | omega | exact Nat.le_refl _⟩, ⟨bf BK120 NB120_122⟩, ⟨bf BK121 NB121_122⟩, ⟨bp BK122⟩, ⟨bes⟩⟩
 case rest =>
  clear HC3
  try clear c1
  try clear c2
  try clear p2
  try clear c5
  try clear p6
  try clear c7
  try clear c7b0
  try clear c8
  try clear c9
  try clear c11
  try clear c13
  try clear c13b0
  try clear c14
  try clear c14b0
  try clear c16
  try clear c16b0
  try clear c16b1
  try clear c18
  try clear c19
  try clear c21
  try clear c23
  try clear c23b0
  try clear c23b1
  try clear c26
  try clear c26b0
  try clear c26b1
  try clear c28
  try clear c28b0
  try clear hcz10_0
  try clear hcz10_1
  try clear hcz12_0
  try clear hcz12_1
  try clear hcz20_0
  try clear hcz20_1
  try clear hcz22_0
  try clear hcz22_1
  try clear hfz10_0
  try clear hfz10_1
  try clear hfz12_0
  try clear hfz12_1
  try clear hfz20_0
  try clear hfz20_1
  try clear hfz22_0
  try clear hfz22_1
  obtain ⟨kq, x122000_2, x122001_2, x123000_2, x123001_2, HA, HJ2, BK120, BK121, BK122, HB⟩ := hcut
  cases kq with
  | zero => exact absurd HA.out (by simp [wide_Wide_Right.j0])
  | succ kj2 =>
   have H := HA.out
   clear HA
   simp only [wide_Wide_Right.j0] at H
   obtain ⟨⟨t123, t124⟩, A330, H⟩ := Option.bind_eq_some_iff.mp H
   (try dsimp -simprocs only at H)
   have A33 := Aside0.mk A330
   clear A330
   by_cases c34 : (!(t123 == a0_0) || (!(t124 == a0_1))) = true
   ·
    rw [if_pos c34] at H
    have c34b0 : (!(t123 == a0_0) || (!(t124 == a0_1))) = true := c34
    clear c34
    simp only [Option.some.injEq, Prod.mk.injEq] at H
    obtain ⟨rfl, rfl, rfl⟩ := H
    try go_wp2
    refine ax4 (blk_drew BK120.out) (blk_drew BK121.out) (blk_drew BK122.out) (below_drew1 HB.out) ?_
    clear BK120 BK121 BK122 HB
    intro BK120 BK121 BK122 HB
    refine start_ (n := 17) (S := fun w' => w'.cell? ⟨gb122, 0, none⟩ = some (.int .u64 x123000_2) ∧ w'.cell? ⟨gb122, 1, none⟩ = some (.int .u64 x123001_2) ∧ w'.cell? ⟨gb120, 0, none⟩ = some (.int .u64 a0_0) ∧ w'.cell? ⟨gb120, 1, none⟩ = some (.int .u64 a0_1)) (ds := []) #[false, false, false, false, false, false, false, false, false, false, false, false, false, false, false, false, false] (by kernel_rfl) rfl rfl ⟨bk BK122 0, bk BK122 1, bk BK120 0, bk BK120 1⟩ (fun hHeld => ?_); refine with_tabW wide_Wide_Right.tab8 wide_Wide_Right.bits8 (fun HT_ HW_ => ?_)
    generalize wc.drew = w35 at BK120 BK121 BK122 HB hHeld ⊢
    refine pu 2 40 (lm 17 4) HT_ ?_
    refine ta 0 38 (lm 17 5) HT_ HW_ hHeld ?_
    refine ta 1 39 (lm 17 7) HT_ HW_ hHeld ?_
    refine ta 4 42 (lm 17 23) HT_ HW_ hHeld ?_
    refine on 3 (some 41) (lm 17 31) HT_ (fun K hK => ?_)
    refine goes_ Try.func35 (by kernel_rfl) rfl #[.agg #[.int .u64 x123000_2, .int .u64 x123001_2], .int .i64 a1] (by rfl) rfl rfl ga ?_
    with_reducible refine (wide_Wide_Left.calls x123000_2 x123001_2 a1 t123 t124 _ A33.out).mono ?_
    rintro e w36 ⟨rfl, hb⟩
    refine ⟨_, rfl, ?_⟩
    refine ax4 (bb BK120 hb) (bb BK121 hb) (bb BK122 hb) (below_step bes hb) ?_
    clear BK120 BK121 BK122 HB
    intro BK120 BK121 BK122 HB
    (try clear hb)
    (try clear hb2)
    (try clear hk)
    (try clear hi)
    refine hK.out _ _ ⟨bk BK122 0, bk BK122 1, bk BK120 0, bk BK120 1⟩ (fun hHeld => ?_)
    clear hK K
    refine no 41 ?_
    refine pu 5 43 (lm 17 63) HT_ ?_
    refine pu 6 44 (lm 17 127) HT_ ?_
    refine po 7 45 (lm 17 255) HT_ ?_
    refine po 8 46 (lm 17 511) HT_ ?_
    refine po 9 47 (lm 17 1023) HT_ ?_
    refine po 10 48 (lm 17 2047) HT_ ?_
    refine po 11 49 (lm 17 4095) HT_ ?_
    refine po 12 50 (lm 17 8191) HT_ ?_
    refine po 13 51 (lm 17 16383) HT_ ?_
    refine pu 14 52 (lm 17 32767) HT_ ?_
    refine on 15 none (lm 17 65535) HT_ (fun K hK => ?_)
    have hs37 : w36.cell? ⟨gb121, 0, none⟩ = some (.int .u64 x122000_2) := bk BK121 0
    have hfs37 := blk_frozen BK121.out 0
    have hns37_0 := NB120_121.out
    have hns37_2 := NB122_121.out
    have hms37_0 := NB121_120.out
    have hms37_2 := NB121_122.out
    have hs38 : w36.cell? ⟨gb121, 1, none⟩ = some (.int .u64 x122001_2) := bk BK121 1
    have hfs38 := blk_frozen BK121.out 1
    have hns38_0 := NB120_121.out
    have hns38_2 := NB122_121.out
    have hms38_0 := NB121_120.out
    have hms38_2 := NB121_122.out
    refine skip_ (w1 := ?_) (by rfl) rfl ?_ ?_
    rotate_left
    ·
     go_simp
     rfl
    refine hK.out _ _ ⟨((cell_far (p := ⟨gb121, _, none⟩) NB122_121.out _).trans (((cell_far (p := ⟨gb121, _, none⟩) NB122_121.out _).trans (hHeld.1)))), ((cell_far (p := ⟨gb121, _, none⟩) NB122_121.out _).trans (((cell_far (p := ⟨gb121, _, none⟩) NB122_121.out _).trans (hHeld.2.1)))), ((cell_far (p := ⟨gb121, _, none⟩) NB120_121.out _).trans (((cell_far (p := ⟨gb121, _, none⟩) NB120_121.out _).trans (hHeld.2.2.1)))), ((cell_far (p := ⟨gb121, _, none⟩) NB120_121.out _).trans (((cell_far (p := ⟨gb121, _, none⟩) NB120_121.out _).trans (hHeld.2.2.2))))⟩ (fun hHeld => ?_)
    clear hK K
    refine pu 16 5 (lm 17 131071) HT_ ?_
    refine done_ (done_of HT_.out (by kernel_rfl)) ?_
    try go_wp2
    refine bodyPost_ret (results_ct rfl _ _ gb121 67 #[.int .u64 x123000_2, .int .u64 x123001_2] (0, 0) _ rfl (bp BK121) Try.underlying67 rfl (by kernel_rfl)) rfl ?_
    exact ⟨er, bes⟩
   ·
    rw [if_neg c34] at H
    have c34b0 : (!(t123 == a0_0) || (!(t124 == a0_1))) = false := by simpa using c34
    clear c34
    by_cases c39 : a1 ≥ 128
    ·
     rw [if_pos c39] at H
     have c39b0 : decide (128 ≤ a1) = true := decide_eq_true c39
     clear c39
     obtain ⟨t125, A400, H⟩ := Option.bind_eq_some_iff.mp H
     (try dsimp -simprocs only at H)
     have A40 := Aside0.mk A400
     clear A400
     simp only [Option.some.injEq, Prod.mk.injEq] at H
     obtain ⟨rfl, rfl, rfl⟩ := H
     try go_wp2
     refine ax4 (blk_drew BK120.out) (blk_drew BK121.out) (blk_drew BK122.out) (below_drew1 HB.out) ?_
     clear BK120 BK121 BK122 HB
     intro BK120 BK121 BK122 HB
     refine start_ (n := 17) (S := fun w' => w'.cell? ⟨gb122, 0, none⟩ = some (.int .u64 x123000_2) ∧ w'.cell? ⟨gb122, 1, none⟩ = some (.int .u64 x123001_2) ∧ w'.cell? ⟨gb120, 0, none⟩ = some (.int .u64 a0_0) ∧ w'.cell? ⟨gb120, 1, none⟩ = some (.int .u64 a0_1)) (ds := []) #[false, false, false, false, false, false, false, false, false, false, false, false, false, false, false, false, false] (by kernel_rfl) rfl rfl ⟨bk BK122 0, bk BK122 1, bk BK120 0, bk BK120 1⟩ (fun hHeld => ?_); refine with_tabW wide_Wide_Right.tab8 wide_Wide_Right.bits8 (fun HT_ HW_ => ?_)
     generalize wc.drew = w41 at BK120 BK121 BK122 HB hHeld ⊢
     refine pu 2 40 (lm 17 4) HT_ ?_
     refine ta 0 38 (lm 17 5) HT_ HW_ hHeld ?_
     refine ta 1 39 (lm 17 7) HT_ HW_ hHeld ?_
     refine ta 4 42 (lm 17 23) HT_ HW_ hHeld ?_
     refine on 3 (some 41) (lm 17 31) HT_ (fun K hK => ?_)
     refine goes_ Try.func35 (by kernel_rfl) rfl #[.agg #[.int .u64 x123000_2, .int .u64 x123001_2], .int .i64 a1] (by rfl) rfl rfl ga ?_
     with_reducible refine (wide_Wide_Left.calls x123000_2 x123001_2 a1 t123 t124 _ A33.out).mono ?_
     rintro e w42 ⟨rfl, hb⟩
     refine ⟨_, rfl, ?_⟩
     refine ax4 (bb BK120 hb) (bb BK121 hb) (bb BK122 hb) (below_step bes hb) ?_
     clear BK120 BK121 BK122 HB
     intro BK120 BK121 BK122 HB
     (try clear hb)
     (try clear hb2)
     (try clear hk)
     (try clear hi)
     refine hK.out _ _ ⟨bk BK122 0, bk BK122 1, bk BK120 0, bk BK120 1⟩ (fun hHeld => ?_)
     clear hK K
     refine no 41 ?_
     refine pu 5 43 (lm 17 63) HT_ ?_
     refine pu 6 44 (lm 17 127) HT_ ?_
     refine pu 7 45 (lm 17 255) HT_ ?_
     refine pu 8 46 (lm 17 511) HT_ ?_
     refine pu 9 47 (lm 17 1023) HT_ ?_
     refine ta 10 48 (lm 17 2047) HT_ HW_ hHeld ?_
     refine on 11 (some 49) (lm 17 4095) HT_ (fun K hK => ?_)
     refine goes_ Try.func52 (by kernel_rfl) rfl #[.agg #[.int .u64 a0_0, .int .u64 a0_1]] (by rfl) rfl rfl ga ?_
     with_reducible refine (wide_Wide_Zero.calls a0_0 a0_1 t125 _ A40.out).mono ?_
     rintro e w43 ⟨rfl, hb⟩
     refine ⟨_, rfl, ?_⟩
     refine ax4 (bb BK120 hb) (bb BK121 hb) (bb BK122 hb) (below_step bes hb) ?_
     clear BK120 BK121 BK122 HB
     intro BK120 BK121 BK122 HB
     (try clear hb)
     (try clear hb2)
     (try clear hk)
     (try clear hi)
     refine hK.out _ _ ⟨bk BK122 0, bk BK122 1, bk BK120 0, bk BK120 1⟩ (fun hHeld => ?_)
     clear hK K
     refine no 49 ?_
     refine pu 12 50 (lm 17 8191) HT_ ?_
     refine pu 13 51 (lm 17 16383) HT_ ?_
     refine pu 14 52 (lm 17 32767) HT_ ?_
     refine on 15 none (lm 17 65535) HT_ (fun K hK => ?_)
     have hs44 : w43.cell? ⟨gb121, 0, none⟩ = some (.int .u64 x122000_2) := bk BK121 0
     have hfs44 := blk_frozen BK121.out 0
     have hns44_0 := NB120_121.out
     have hns44_2 := NB122_121.out
     have hms44_0 := NB121_120.out
     have hms44_2 := NB121_122.out
     have hs45 : w43.cell? ⟨gb121, 1, none⟩ = some (.int .u64 x122001_2) := bk BK121 1
     have hfs45 := blk_frozen BK121.out 1
     have hns45_0 := NB120_121.out
     have hns45_2 := NB122_121.out
     have hms45_0 := NB121_120.out
     have hms45_2 := NB121_122.out
     refine skip_ (w1 := ?_) (by rfl) rfl ?_ ?_
     rotate_left
     ·
      go_simp
      rfl
     refine hK.out _ _ ⟨((cell_far (p := ⟨gb121, _, none⟩) NB122_121.out _).trans (((cell_far (p := ⟨gb121, _, none⟩) NB122_121.out _).trans (hHeld.1)))), ((cell_far (p := ⟨gb121, _, none⟩) NB122_121.out _).trans (((cell_far (p := ⟨gb121, _, none⟩) NB122_121.out _).trans (hHeld.2.1)))), ((cell_far (p := ⟨gb121, _, none⟩) NB120_121.out _).trans (((cell_far (p := ⟨gb121, _, none⟩) NB120_121.out _).trans (hHeld.2.2.1)))), ((cell_far (p := ⟨gb121, _, none⟩) NB120_121.out _).trans (((cell_far (p := ⟨gb121, _, none⟩) NB120_121.out _).trans (hHeld.2.2.2))))⟩ (fun hHeld => ?_)
     clear hK K
     refine pu 16 5 (lm 17 131071) HT_ ?_
     refine done_ (done_of HT_.out (by kernel_rfl)) ?_
     try go_wp2
     refine bodyPost_ret (results_ct rfl _ _ gb121 67 #[.int .u64 x123000_2, .int .u64 x123001_2] (0, 0) _ rfl (bp BK121) Try.underlying67 rfl (by kernel_rfl)) rfl ?_
     exact ⟨er, bes⟩
    ·
     rw [if_neg c39] at H
     have c39b0 : decide (128 ≤ a1) = false := decide_eq_false c39
     clear c39
     simp only [Option.some.injEq, Prod.mk.injEq] at H
     obtain ⟨rfl, rfl, rfl⟩ := H
     try go_wp2
     refine ax4 (blk_drew BK120.out) (blk_drew BK121.out) (blk_drew BK122.out) (below_drew1 HB.out) ?_
     clear BK120 BK121 BK122 HB
     intro BK120 BK121 BK122 HB
     refine start_ (n := 17) (S := fun w' => w'.cell? ⟨gb122, 0, none⟩ = some (.int .u64 x123000_2) ∧ w'.cell? ⟨gb122, 1, none⟩ = some (.int .u64 x123001_2) ∧ w'.cell? ⟨gb120, 0, none⟩ = some (.int .u64 a0_0) ∧ w'.cell? ⟨gb120, 1, none⟩ = some (.int .u64 a0_1)) (ds := []) #[false, false, false, false, false, false, false, false, false, false, false, false, false, false, false, false, false] (by kernel_rfl) rfl rfl ⟨bk BK122 0, bk BK122 1, bk BK120 0, bk BK120 1⟩ (fun hHeld => ?_); refine with_tabW wide_Wide_Right.tab8 wide_Wide_Right.bits8 (fun HT_ HW_ => ?_)
     generalize wc.drew = w46 at BK120 BK121 BK122 HB hHeld ⊢
     refine pu 2 40 (lm 17 4) HT_ ?_
     refine ta 0 38 (lm 17 5) HT_ HW_ hHeld ?_
     refine ta 1 39 (lm 17 7) HT_ HW_ hHeld ?_
     refine ta 4 42 (lm 17 23) HT_ HW_ hHeld ?_
     refine on 3 (some 41) (lm 17 31) HT_ (fun K hK => ?_)
     refine goes_ Try.func35 (by kernel_rfl) rfl #[.agg #[.int .u64 x123000_2, .int .u64 x123001_2], .int .i64 a1] (by rfl) rfl rfl ga ?_
     with_reducible refine (wide_Wide_Left.calls x123000_2 x123001_2 a1 t123 t124 _ A33.out).mono ?_
     rintro e w47 ⟨rfl, hb⟩
     refine ⟨_, rfl, ?_⟩
     refine ax4 (bb BK120 hb) (bb BK121 hb) (bb BK122 hb) (below_step bes hb) ?_
     clear BK120 BK121 BK122 HB
     intro BK120 BK121 BK122 HB
     (try clear hb)
     (try clear hb2)
     (try clear hk)
     (try clear hi)
     refine hK.out _ _ ⟨bk BK122 0, bk BK122 1, bk BK120 0, bk BK120 1⟩ (fun hHeld => ?_)
     clear hK K
     refine no 41 ?_
     refine pu 5 43 (lm 17 63) HT_ ?_
     refine pu 6 44 (lm 17 127) HT_ ?_
     refine pu 7 45 (lm 17 255) HT_ ?_
     refine pu 8 46 (lm 17 511) HT_ ?_
     refine pu 9 47 (lm 17 1023) HT_ ?_
     refine po 10 48 (lm 17 2047) HT_ ?_
     refine po 11 49 (lm 17 4095) HT_ ?_
     refine po 12 50 (lm 17 8191) HT_ ?_
     refine pu 13 51 (lm 17 16383) HT_ ?_
     refine pu 14 52 (lm 17 32767) HT_ ?_
     refine on 15 none (lm 17 65535) HT_ (fun K hK => ?_)
     have hs48 : w47.cell? ⟨gb121, 0, none⟩ = some (.int .u64 x122000_2) := bk BK121 0
     have hfs48 := blk_frozen BK121.out 0
     have hns48_0 := NB120_121.out
     have hns48_2 := NB122_121.out
     have hms48_0 := NB121_120.out
     have hms48_2 := NB121_122.out
     have hs49 : w47.cell? ⟨gb121, 1, none⟩ = some (.int .u64 x122001_2) := bk BK121 1
     have hfs49 := blk_frozen BK121.out 1
     have hns49_0 := NB120_121.out
     have hns49_2 := NB122_121.out
     have hms49_0 := NB121_120.out
     have hms49_2 := NB121_122.out
     refine skip_ (w1 := ?_) (by rfl) rfl ?_ ?_
     rotate_left
     ·
      go_simp
      rfl
     refine hK.out _ _ ⟨((cell_far (p := ⟨gb121, _, none⟩) NB122_121.out _).trans (((cell_far (p := ⟨gb121, _, none⟩) NB122_121.out _).trans (hHeld.1)))), ((cell_far (p := ⟨gb121, _, none⟩) NB122_121.out _).trans (((cell_far (p := ⟨gb121, _, none⟩) NB122_121.out _).trans (hHeld.2.1)))), ((cell_far (p := ⟨gb121, _, none⟩) NB120_121.out _).trans (((cell_far (p := ⟨gb121, _, none⟩) NB120_121.out _).trans (hHeld.2.2.1)))), ((cell_far (p := ⟨gb121, _, none⟩) NB120_121.out _).trans (((cell_far (p := ⟨gb121, _, none⟩) NB120_121.out _).trans (hHeld.2.2.2))))⟩ (fun hHeld => ?_)
     clear hK K
     refine pu 16 5 (lm 17 131071) HT_ ?_
     refine done_ (done_of HT_.out (by kernel_rfl)) ?_
     try go_wp2
     refine bodyPost_ret (results_ct rfl _ _ gb121 67 #[.int .u64 x123000_2, .int .u64 x123001_2] (0, 0) _ rfl (bp BK121) Try.underlying67 rfl (by kernel_rfl)) rfl ?_
     exact ⟨er, bes⟩

/-! ### round_split: function 54 -/
def round_split.f (k : Nat) (a0_0 : Int) (a0_1 : Int) (a1 : Int) (a2 : Bool) : Option (Bool × Bool) := if a1 > 128 then (some (false, a2)) else ((wide_Wide_Right.f k a0_0 a0_1 (wrap64 (a1 - 1))).bind fun bt127 => (some (((Go.bits .and .u64 bt127.2.1 1) == 1), bt127.2.2)))
theorem round_split.mono : ∀ a0 a1 a2 a3 k, LeO (round_split.f k a0 a1 a2 a3) (round_split.f (k + 1) a0 a1 a2 a3) := by
 intro a0 a1 a2 a3 k
 unfold round_split.f
 repeat' with_reducible first | apply wide_Wide_Right.mono | exact LeO.refl _ | exact LeO.none _ | refine LeO.ite ?_ ?_ | refine LeO.bind ?_ (fun _ => ?_)
set_option maxHeartbeats 8000000 in
set_option maxRecDepth 100000 in
theorem round_split.calls (k : Nat) (a0_0 : Int) (a0_1 : Int) (a1 : Int) (a2 : Bool) (r1 : Bool) (r2 : Bool) (w : World) (h : round_split.f k a0_0 a0_1 a1 a2 = some (r1, r2)) :
  Calls Try.prog 54 #[.agg #[.int .u64 a0_0, .int .u64 a0_1], .int .i64 a1, .bool a2] w fun e w' => e = .returned (.tuple #[.bool r1, .bool r2]) ∧ Below w.heap.size w w' := by
 have hu67 := Try.underlying67
 have HB := Aside0.mk (Below.refl w.heap.size w)
 have H : (if a1 > 128 then (some (false, a2)) else ((wide_Wide_Right.f k a0_0 a0_1 (wrap64 (a1 - 1))).bind fun bt127 => (some (((Go.bits .and .u64 bt127.2.1 1) == 1), bt127.2.2)))) = some (r1, r2) := h
 clear h
 by_cases c4 : a1 > 128
 ·
  rw [if_pos c4] at H
  have c4b0 : decide (128 < a1) = true := decide_eq_true c4
  clear c4
  simp only [Option.some.injEq, Prod.mk.injEq] at H
  obtain ⟨rfl, rfl⟩ := H
  go_enter Try.func54, Try.ntmps54
  go_wp2_with (first | ((with_reducible refine gate_dst (N := 3) rfl ?_); refine gbox (N := 3) (cs := #[.int .u64 a0_0, .int .u64 a0_1]) (t := 67) ?_; intro gb126 hg w5 hbox hb; refine ax4 (below_step bel hb) hbox ((ge hg : w.heap.size ≤ gb126)) ((ge hg : w.heap.size ≤ gb126)) ?_; clear HB; intro HB BK126 GW126 GE126; clear hb hbox hg))
  go_ret2
  exact ⟨er, bes⟩
 ·
  rw [if_neg c4] at H
  have c4b0 : decide (128 < a1) = false := decide_eq_false c4
  clear c4
  obtain ⟨⟨t127, t128, t129⟩, A60, H⟩ := Option.bind_eq_some_iff.mp H
  (try dsimp -simprocs only at H)
  have A6 := Aside0.mk A60
  clear A60
  simp only [Option.some.injEq, Prod.mk.injEq] at H
  obtain ⟨rfl, rfl⟩ := H
  go_enter Try.func54, Try.ntmps54
  go_wp2_with (first | ((with_reducible refine gate_dst (N := 3) rfl ?_); refine gbox (N := 3) (cs := #[.int .u64 a0_0, .int .u64 a0_1]) (t := 67) ?_; intro gb126 hg w7 hbox hb; refine ax4 (below_step bel hb) hbox ((ge hg : w.heap.size ≤ gb126)) ((ge hg : w.heap.size ≤ gb126)) ?_; clear HB; intro HB BK126 GW126 GE126; clear hb hbox hg; have hcz8_0 := bc BK126 0 rfl; have hcz8_1 := bc BK126 1 rfl; have hfz8_0 := blk_frozen BK126.out 0; have hfz8_1 := blk_frozen BK126.out 1) | ((with_reducible refine gate_callee (f := 53) rfl ?_); refine goesL_ (some 18) rfl rfl Try.func53 (by kernel_rfl) rfl #[.agg #[.int .u64 a0_0, .int .u64 a0_1], .int .i64 (wrap64 (a1 - 1))] rfl ga ?_; (with_reducible refine (wide_Wide_Right.calls k a0_0 a0_1 (wrap64 (a1 - 1)) t127 t128 t129 _ A6.out).mono ?_); rintro e w9 ⟨rfl, hb⟩; refine ⟨_, rfl, ?_⟩; refine ax2 (bb BK126 hb) (below_step bes hb) ?_; clear BK126; clear HB; intro BK126 HB; (try clear hb)) | ((with_reducible refine gate_dst (N := 8) rfl ?_); refine gbox (N := 8) (cs := #[.int .u64 0, .int .u64 0]) (t := 67) ?_; intro gb130 hg w10 hbox hb; refine ax7 (bb BK126 hb) (below_step bes hb) hbox ((ge hg : w.heap.size ≤ gb130)) ((ge hg : w.heap.size ≤ gb130)) (nl hg BK126) (ng hg BK126) ?_; clear BK126; clear HB; intro BK126 HB BK130 GW130 GE130 NB126_130 NB130_126; clear hb hbox hg; have hnb11 := NB130_126.out; have hnc11 := NB126_130.out; have hcz12_0 := bc BK130 0 rfl; have hcz12_1 := bc BK130 1 rfl; have hfz12_0 := blk_frozen BK130.out 0; have hfz12_1 := blk_frozen BK130.out 1))
  go_ret2
  exact ⟨er, bes⟩

end Go.Proofs.Ytnjobojkoaknpaa.F
